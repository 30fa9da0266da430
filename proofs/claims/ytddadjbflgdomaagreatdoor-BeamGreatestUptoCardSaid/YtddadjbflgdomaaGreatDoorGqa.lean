/-
  Lemmas that the theorem beamGreatest_upto_card needs (part 1 of 1).
-/
import Derived.Test.YtddadjbflgdomaaGreatDoorBqe
import Derived.Control
import Derived.Calls
import Derived.Shelf.SlLaysF
import Derived.Test.YtddadjbflgdomaaGreatDoorProg
import Derived.Shelf.SlSortCmp.NoneTotal
namespace Go.Proofs.YtddadjbflgdomaaGreatDoor
theorem compQ_strict (l : List Rat) (h : l.Pairwise (· ≤ ·)) : (compQ l).Pairwise (· < ·) := by
  fun_induction compQ l with
  | case1 => exact List.Pairwise.nil
  | case2 x => simp
  | case3 x l ih =>
    exact ih (List.pairwise_cons.1 h).2
  | case4 x y l hne ih =>
    have h2 := List.pairwise_cons.1 h
    have h3 := List.pairwise_cons.1 h2.2
    refine List.pairwise_cons.2 ⟨fun z hz => ?_, ih h2.2⟩
    have hxy : x < y := Rat.lt_of_le_of_ne (h2.1 y (List.mem_cons_self ..)) fun e => hne e.symm
    rcases List.mem_cons.1 ((mem_compQ _).1 hz) with rfl | hz
    · exact hxy
    · exact Rat.not_le.1 fun e => Rat.not_le.2 hxy (Rat.le_trans (h3.1 z hz) e)
end Go.Proofs.YtddadjbflgdomaaGreatDoor
namespace Go.Proofs.YtddadjbflgdomaaGreatDoor
theorem sumW_app (a b : List (Rat × Rat)) : sumW (a ++ b) = sumW a + sumW b := by
  induction a with
  | nil => show sumW b = 0 + sumW b; grind
  | cons p a ih => show p.2 + sumW (a ++ b) = p.2 + sumW a + sumW b; rw [ih]; grind
end Go.Proofs.YtddadjbflgdomaaGreatDoor
namespace Go.Proofs.YtddadjbflgdomaaGreatDoor
/-- The turning weight of the loads up to a place. -/
def ldF (l : List (Rat × Rat)) (x : Rat) : Rat := x * sumW (l.filter fun f => decide (f.1 ≤ x)) - sumM (l.filter fun f => decide (f.1 ≤ x))
def ldS (l : List (Rat × Rat × Rat)) (x : Rat) : Rat := x * sumW (l.filterMap (sprd x)) - sumM (l.filterMap (sprd x))
theorem ldF_cons (p : Rat × Rat) (l : List (Rat × Rat)) (x : Rat) : ldF (p :: l) x = (if p.1 ≤ x then p.2 * (x - p.1) else 0) + ldF l x := by
  unfold ldF
  rw [List.filter_cons]
  by_cases c : p.1 ≤ x
  · rw [if_pos (decide_eq_true c), if_pos c]
    show x * (p.2 + sumW _) - (p.2 * p.1 + sumM _) = _
    grind
  · rw [if_neg (by simpa using c), if_neg c]; grind
/-- One spread's part. -/
def sp1 (s : Rat × Rat × Rat) (x : Rat) : Rat := if x ≤ s.1 then 0 else if x ≤ s.2.1 then s.2.2 * (x - s.1) * (x - s.1) / 2 else s.2.2 * (s.2.1 - s.1) * (x - (s.1 + s.2.1) / 2)
theorem ldS_cons {s : Rat × Rat × Rat} (hs : s.1 < s.2.1) (l : List (Rat × Rat × Rat)) (x : Rat) : ldS (s :: l) x = sp1 s x + ldS l x := by
  unfold ldS sp1
  rw [List.filterMap_cons]
  by_cases c1 : x ≤ s.1
  · have e : sprd x s = none := by unfold sprd; rw [if_neg]; split <;> grind
    rw [e, if_pos c1]; simp only; grind
  · rw [if_neg c1]
    by_cases c2 : x ≤ s.2.1
    · have e : sprd x s = some ((s.1 + x) / 2, s.2.2 * (x - s.1)) := by
        have e0 : (if x < s.2.1 then x else s.2.1) = x := by split; rfl; grind
        unfold sprd; rw [e0, if_pos (Rat.not_le.1 c1)]
      rw [e, if_pos c2]
      show x * (s.2.2 * (x - s.1) + sumW _) - (s.2.2 * (x - s.1) * ((s.1 + x) / 2) + sumM _) = _
      grind
    · have e : sprd x s = some ((s.1 + s.2.1) / 2, s.2.2 * (s.2.1 - s.1)) := by
        have e0 : (if x < s.2.1 then x else s.2.1) = s.2.1 := by split; grind; rfl
        unfold sprd; rw [e0, if_pos hs]
      rw [e, if_neg c2]
      show x * (s.2.2 * (s.2.1 - s.1) + sumW _) - (s.2.2 * (s.2.1 - s.1) * ((s.1 + s.2.1) / 2) + sumM _) = _
      grind
theorem sp1_full {s : Rat × Rat × Rat} {L : Rat} (hL : s.2.1 ≤ L) (hs : s.1 < s.2.1) : sp1 s L = s.2.2 * (s.2.1 - s.1) * (L - (s.1 + s.2.1) / 2) := by
  unfold sp1
  rw [if_neg (show ¬ L ≤ s.1 by grind)]
  by_cases c : L ≤ s.2.1
  · have e : L = s.2.1 := Rat.le_antisymm c hL
    rw [if_pos c, e]; grind
  · rw [if_neg c]
theorem moment_ld (b : BmP) (x : Rat) : b.moment x = (if b.l < x then b.left * (x - b.l) else 0) + (if b.r < x then b.right * (x - b.r) else 0) - (ldF b.fs x + ldS b.ss x) := by
  unfold BmP.moment BmP.pts ldF ldS
  rw [sumW_app, sumM_app]; grind
end Go.Proofs.YtddadjbflgdomaaGreatDoor
namespace Go.Proofs.YtddadjbflgdomaaGreatDoor
theorem pc_sup {p q c v x : Rat} (h : Out p q c) (h1 : p ≤ x) (h2 : x ≤ q) (hpq : p < q) : (if c < x then v * (x - c) else 0) = (if c < p then v * (p - c) else 0) + (if c ≤ p then v else 0) * (x - p) := by
  rcases h with h | h
  · rw [if_pos h]
    by_cases c1 : c < p
    · rw [if_pos c1, if_pos (show c < x by grind)]; grind
    · have e : c = p := Rat.le_antisymm h (Rat.not_lt.1 c1)
      rw [if_neg c1]
      by_cases c2 : c < x
      · rw [if_pos c2, e]; grind
      · rw [if_neg c2]; have : x = p := by grind
        grind
  · rw [if_neg (show ¬ c < x by grind), if_neg (show ¬ c < p by grind), if_neg (show ¬ c ≤ p by grind)]; grind
theorem pc_F {p q x : Rat} (h1 : p ≤ x) (h2 : x ≤ q) (hpq : p < q) (l : List (Rat × Rat)) (h : ∀ f ∈ l, Out p q f.1) : ldF l x = ldF l p + sumW (l.filter fun f => decide (f.1 ≤ p)) * (x - p) := by
  induction l with
  | nil => show x * 0 - 0 = p * 0 - 0 + 0 * (x - p); grind
  | cons f l ih =>
    have i1 := ih fun g hg => h g (List.mem_cons_of_mem _ hg)
    rw [ldF_cons, ldF_cons, i1, List.filter_cons]
    rcases h f (List.mem_cons_self ..) with c | c
    · rw [if_pos c, if_pos (Rat.le_trans c h1), if_pos (decide_eq_true c)]
      show _ = _ + (f.2 + sumW _) * (x - p)
      grind
    · have n1 : ¬ f.1 ≤ p := by grind
      rw [if_neg n1, if_neg (show ¬ decide (f.1 ≤ p) = true by simpa using n1)]
      by_cases c2 : f.1 ≤ x
      · have e : x = f.1 := by grind
        rw [if_pos c2, e]; grind
      · rw [if_neg c2]; grind
theorem pc_S {p q x : Rat} (h1 : p ≤ x) (h2 : x ≤ q) (hpq : p < q) (l : List (Rat × Rat × Rat)) (h0 : ∀ s ∈ l, s.1 < s.2.1) (hA : ∀ s ∈ l, Out p q s.1) (hB : ∀ s ∈ l, Out p q s.2.1) :
    ldS l x = ldS l p + sumW (l.filterMap (sprd p)) * (x - p) + ldAt p q l * ((x - p) * (x - p)) / 2 := by
  induction l with
  | nil => show x * 0 - 0 = p * 0 - 0 + 0 * (x - p) + 0 * ((x - p) * (x - p)) / 2; grind
  | cons s l ih =>
    have i1 := ih (fun g hg => h0 g (List.mem_cons_of_mem _ hg)) (fun g hg => hA g (List.mem_cons_of_mem _ hg)) (fun g hg => hB g (List.mem_cons_of_mem _ hg))
    have hs := h0 s (List.mem_cons_self ..)
    rw [ldS_cons hs, ldS_cons hs, i1, List.filterMap_cons]
    show _ = _ + _ + ((if s.1 ≤ p ∧ q ≤ s.2.1 then s.2.2 else 0) + ldAt p q l) * ((x - p) * (x - p)) / 2
    generalize ldS l p = u
    generalize ldAt p q l = w
    rcases hA s (List.mem_cons_self ..) with a | a
    · rcases hB s (List.mem_cons_self ..) with c | c
      · -- behind
        have e : sprd p s = some ((s.1 + s.2.1) / 2, s.2.2 * (s.2.1 - s.1)) := by
          unfold sprd; rw [if_neg (Rat.not_lt.2 c), if_pos hs]
        rw [e, if_neg (show ¬ (s.1 ≤ p ∧ q ≤ s.2.1) from fun h => by grind)]
        show _ = _ + (s.2.2 * (s.2.1 - s.1) + sumW _) * (x - p) + _
        generalize sumW (l.filterMap (sprd p)) = k
        have v : ∀ y, s.2.1 ≤ y → sp1 s y = s.2.2 * (s.2.1 - s.1) * (y - (s.1 + s.2.1) / 2) := fun y hy => sp1_full hy hs
        rw [v x (Rat.le_trans c h1), v p c]; grind
      · -- upon it
        rw [if_pos ⟨a, c⟩]
        have v : ∀ y, s.1 ≤ y → y ≤ s.2.1 → sp1 s y = s.2.2 * (y - s.1) * (y - s.1) / 2 := fun y b1 b2 => by
          unfold sp1
          by_cases c1 : y ≤ s.1
          · have e : y = s.1 := Rat.le_antisymm c1 b1
            rw [if_pos c1, e]; grind
          · rw [if_neg c1, if_pos b2]
        rw [v x (Rat.le_trans a h1) (Rat.le_trans h2 c), v p a (show p ≤ s.2.1 by grind)]
        by_cases c1 : s.1 < p
        · have e : sprd p s = some ((s.1 + p) / 2, s.2.2 * (p - s.1)) := by
            unfold sprd; rw [if_pos (show p < s.2.1 by grind), if_pos c1]
          rw [e]
          show _ = _ + (s.2.2 * (p - s.1) + sumW _) * (x - p) + _
          generalize sumW (l.filterMap (sprd p)) = k
          grind
        · have e2 : s.1 = p := Rat.le_antisymm a (Rat.not_lt.1 c1)
          have e : sprd p s = none := by
            unfold sprd; rw [if_pos (show p < s.2.1 by grind), if_neg c1]
          rw [e]
          simp only
          generalize sumW (l.filterMap (sprd p)) = k
          grind
    · -- ahead
      have e : sprd p s = none := by
        unfold sprd; rw [if_pos (show p < s.2.1 by grind), if_neg (show ¬ s.1 < p by grind)]
      have v : ∀ y, y ≤ s.1 → sp1 s y = 0 := fun y b1 => by unfold sp1; rw [if_pos b1]
      rw [e, v x (Rat.le_trans h2 a), v p (show p ≤ s.1 by grind), if_neg (show ¬ (s.1 ≤ p ∧ q ≤ s.2.1) from fun h => by grind)]
      simp only
      generalize sumW (l.filterMap (sprd p)) = k
      grind
theorem piece {b : BmP} (h0 : ∀ s ∈ b.ss, s.1 < s.2.1) {p q x : Rat} (h : b.Pc p q) (h1 : p ≤ x) (h2 : x ≤ q) (hpq : p < q) :
    b.moment x = b.moment p + b.shear p * (x - p) - ldAt p q b.ss * ((x - p) * (x - p)) / 2 := by
  rw [moment_ld, moment_ld, pc_sup h.l h1 h2 hpq, pc_sup h.r h1 h2 hpq, pc_F h1 h2 hpq b.fs h.f, pc_S h1 h2 hpq b.ss h0 h.s1 h.s2]
  unfold BmP.shear BmP.pts
  rw [sumW_app]
  grind
/-- A parabola's greatest value upon a piece. -/
theorem parab {A B K D M u : Rat} (hu : 0 < u) (hD : u < D) (hA : A ≤ M) (hE : A + B * D - K * (D * D) / 2 ≤ M) (hz : K ≠ 0 → 0 < B / K → B / K < D → A + B * (B / K) - K * ((B / K) * (B / K)) / 2 ≤ M) :
    A + B * u - K * (u * u) / 2 ≤ M ∧ (A + B * u - K * (u * u) / 2 = M → A = M ∨ (K ≠ 0 ∧ u = B / K)) := by
  have nn : ∀ x y : Rat, 0 < x → 0 < y → 0 < x * y := fun x y => Rat.mul_pos
  by_cases k0 : K = 0
  · subst k0
    by_cases b0 : 0 < B
    · have := nn B (D - u) b0 (by grind)
      constructor
      · grind
      · intro h; exfalso; grind
    · have := Rat.mul_nonneg (show 0 ≤ -B by grind) (Rat.le_of_lt hu)
      constructor
      · grind
      · intro h; left; grind
  · by_cases kp : 0 < K
    · obtain ⟨v, hv⟩ : ∃ v, v = B / K := ⟨_, rfl⟩
      have hvK : v * K = B := by grind
      rw [← hv] at hz ⊢
      clear hv
      subst hvK
      by_cases c1 : 0 < v
      · by_cases c2 : v < D
        · have hz := hz k0 c1 c2
          by_cases e : u = v
          · subst e
            exact ⟨hz, fun _ => .inr ⟨k0, rfl⟩⟩
          · have : 0 < (u - v) * (u - v) := by
              by_cases g : u < v
              · have := nn (v - u) (v - u) (by grind) (by grind); grind
              · exact nn (u - v) (u - v) (by grind) (by grind)
            have := nn K _ kp this
            constructor
            · grind
            · intro h; exfalso; grind
        · -- the vertex behind
          have a1 := nn (D - u) (K * (D - u)) (by grind) (nn K (D - u) kp (by grind))
          have a2 := Rat.mul_nonneg (Rat.mul_nonneg (Rat.le_of_lt kp) (show 0 ≤ v - D by grind)) (show 0 ≤ D - u by grind)
          constructor
          · grind
          · intro h; exfalso; grind
      · have a1 := nn u (K * u) hu (nn K u kp hu)
        have a2 := Rat.mul_nonneg (Rat.mul_nonneg (Rat.le_of_lt kp) (show 0 ≤ -v by grind)) (Rat.le_of_lt hu)
        constructor
        · grind
        · intro h; exfalso; grind
    · have kn : 0 < -K := by have := Rat.not_lt.1 kp; have := Rat.lt_of_le_of_ne this k0; grind
      -- value = A + (E - A) u / D + K u (D - u) / 2
      have hD0 : 0 < D := by grind
      have a1 := nn (-K) (u * (D - u)) kn (nn u (D - u) hu (by grind))
      obtain ⟨t, ht⟩ : ∃ t, t = u / D := ⟨_, rfl⟩
      have htD : t * D = u := by grind
      have t0 : 0 < t := by
        refine Rat.not_le.1 fun h => ?_
        have := Rat.mul_nonneg (show 0 ≤ -t by grind) (Rat.le_of_lt hD0)
        grind
      have t1 : t < 1 := by
        refine Rat.not_le.1 fun h => ?_
        have := Rat.mul_nonneg (show 0 ≤ t - 1 by grind) (Rat.le_of_lt hD0)
        grind
      obtain ⟨E, hEE⟩ : ∃ E, E = A + B * D - K * (D * D) / 2 := ⟨_, rfl⟩
      rw [← hEE] at hE
      have b1 := Rat.mul_nonneg (show 0 ≤ 1 - t by grind) (show 0 ≤ M - A by grind)
      have b2 := Rat.mul_nonneg (Rat.le_of_lt t0) (show 0 ≤ M - E by grind)
      have e1 : A + B * u - K * (u * u) / 2 = (1 - t) * A + t * E + K * (u * (D - u)) / 2 := by rw [hEE, ← htD]; grind
      rw [e1]
      constructor
      · grind
      · intro h; exfalso; grind
end Go.Proofs.YtddadjbflgdomaaGreatDoor
namespace Go.Proofs.YtddadjbflgdomaaGreatDoor
theorem best_law (m : Rat → Rat) : ∀ (l : List Rat) (w : Rat), (w :: l).Pairwise (· ≤ ·) → bestQ m w l ∈ w :: l ∧ (∀ y ∈ w :: l, m y ≤ m (bestQ m w l)) ∧ (∀ y ∈ w :: l, m y = m (bestQ m w l) → bestQ m w l ≤ y)
  | [], w, _ => by
    refine ⟨List.mem_cons_self .., fun y hy => ?_, fun y hy _ => ?_⟩
    · obtain rfl := List.mem_singleton.1 hy; exact Rat.le_refl
    · obtain rfl := List.mem_singleton.1 hy; exact Rat.le_refl
  | x :: l, w, h => by
    have h1 := List.pairwise_cons.1 h
    have h2 := List.pairwise_cons.1 h1.2
    unfold bestQ
    by_cases c : m w < m x
    · rw [if_pos c]
      obtain ⟨a1, a2, a3⟩ := best_law m l x h1.2
      refine ⟨List.mem_cons_of_mem _ a1, fun y hy => ?_, fun y hy e => ?_⟩
      · rcases List.mem_cons.1 hy with rfl | hy
        · exact Rat.le_trans (Rat.le_of_lt c) (a2 x (List.mem_cons_self ..))
        · exact a2 y hy
      · rcases List.mem_cons.1 hy with rfl | hy
        · have := a2 x (List.mem_cons_self ..)
          rw [← e] at this
          exact absurd c (Rat.not_lt.2 this)
        · exact a3 y hy e
    · rw [if_neg c]
      have c := Rat.not_lt.1 c
      obtain ⟨a1, a2, a3⟩ := best_law m l w (List.pairwise_cons.2 ⟨fun y hy => h1.1 y (List.mem_cons_of_mem _ hy), h2.2⟩)
      refine ⟨?_, fun y hy => ?_, fun y hy e => ?_⟩
      · rcases List.mem_cons.1 a1 with e | a1
        · rw [e]; exact List.mem_cons_self ..
        · exact List.mem_cons_of_mem _ (List.mem_cons_of_mem _ a1)
      · rcases List.mem_cons.1 hy with rfl | hy
        · exact a2 y (List.mem_cons_self ..)
        · rcases List.mem_cons.1 hy with rfl | hy
          · exact Rat.le_trans c (a2 w (List.mem_cons_self ..))
          · exact a2 y (List.mem_cons_of_mem _ hy)
      · rcases List.mem_cons.1 hy with rfl | hy
        · exact a3 y (List.mem_cons_self ..) e
        · rcases List.mem_cons.1 hy with rfl | hy
          · have e2 : m w = m (bestQ m w l) := Rat.le_antisymm (a2 w (List.mem_cons_self ..)) (by rw [← e]; exact c)
            exact Rat.le_trans (a3 w (List.mem_cons_self ..) e2) (h1.1 y (List.mem_cons_self ..))
          · exact a3 y (List.mem_cons_of_mem _ hy) e
/-- A place among strictly ascending ones, or between two neighbours. -/
theorem cover {x : Rat} : ∀ (c : List Rat) (a : Rat), (a :: c).Pairwise (· < ·) → a ≤ x → (∃ z ∈ a :: c, x ≤ z) → x ∈ a :: c ∨ ∃ l1 p q l2, a :: c = l1 ++ p :: q :: l2 ∧ p < x ∧ x < q
  | [], a, _, h1, ⟨z, hz, h2⟩ => by
    obtain rfl := List.mem_singleton.1 hz
    exact .inl (by rw [Rat.le_antisymm h2 h1]; exact List.mem_cons_self ..)
  | y :: c, a, h, h1, ⟨z, hz, h2⟩ => by
    have p1 := List.pairwise_cons.1 h
    by_cases e : x = a
    · exact .inl (by rw [e]; exact List.mem_cons_self ..)
    have hax : a < x := Rat.lt_of_le_of_ne h1 fun h => e h.symm
    by_cases hy : x < y
    · exact .inr ⟨[], a, y, c, rfl, hax, hy⟩
    · have hy := Rat.not_lt.1 hy
      have hz' : z ∈ y :: c := by
        rcases List.mem_cons.1 hz with rfl | hz
        · exact absurd hax (Rat.not_lt.2 h2)
        · exact hz
      rcases cover c y p1.2 hy ⟨z, hz', h2⟩ with h | ⟨l1, p, q, l2, h3, h4⟩
      · exact .inl (List.mem_cons_of_mem _ h)
      · exact .inr ⟨a :: l1, p, q, l2, by rw [h3]; rfl, h4⟩
theorem near_out {l1 l2 : List Rat} {p q : Rat} (h : (l1 ++ p :: q :: l2).Pairwise (· < ·)) : p < q ∧ ∀ y ∈ l1 ++ p :: q :: l2, Out p q y := by
  obtain ⟨_, h2, h3⟩ := List.pairwise_append.1 h
  have h4 := List.pairwise_cons.1 h2
  have h5 := List.pairwise_cons.1 h4.2
  refine ⟨h4.1 q (List.mem_cons_self ..), fun y hy => ?_⟩
  rcases List.mem_append.1 hy with hy | hy
  · exact .inl (Rat.le_of_lt (h3 y hy p (List.mem_cons_self ..)))
  · rcases List.mem_cons.1 hy with rfl | hy
    · exact .inl Rat.le_refl
    · rcases List.mem_cons.1 hy with rfl | hy
      · exact .inr Rat.le_refl
      · exact .inr (Rat.le_of_lt (h5.1 y hy))
theorem mem_zeros (b : BmP) {z p q : Rat} (hz : z ∈ b.zero1 p q) : ∀ (l1 l2 : List Rat), z ∈ b.zeros (l1 ++ p :: q :: l2)
  | [], l2 => by show z ∈ b.zero1 p q ++ _; exact List.mem_append_left _ hz
  | [a], l2 => by show z ∈ b.zero1 a p ++ b.zeros ([] ++ p :: q :: l2); exact List.mem_append_right _ (mem_zeros b hz [] l2)
  | a :: c :: l1, l2 => by show z ∈ b.zero1 a c ++ b.zeros ((c :: l1) ++ p :: q :: l2); exact List.mem_append_right _ (mem_zeros b hz (c :: l1) l2)
theorem great_law {b : BmP} (h : b.Lies) {x : Rat} (hx0 : 0 ≤ x) (hx1 : x ≤ b.len) : b.moment x ≤ b.moment b.where_ ∧ (b.moment x = b.moment b.where_ → b.where_ ≤ x) := by
  have hchg : b.chg.Pairwise (· < ·) := compQ_strict _ (sortQ_sorted _)
  have hsort : b.places.Pairwise (· ≤ ·) := sortQ_sorted _
  have hmem : ∀ y, y ∈ b.places ↔ y ∈ b.chg ∨ y ∈ b.zeros b.chg := fun y => by unfold BmP.places; rw [mem_sortQ, List.mem_append]
  have hbest : (∀ y ∈ b.places, b.moment y ≤ b.moment b.where_) ∧ (∀ y ∈ b.places, b.moment y = b.moment b.where_ → b.where_ ≤ y) := by
    unfold BmP.where_
    cases hp : b.places with
    | nil =>
      have : (0 : Rat) ∈ b.places := (hmem 0).2 (.inl (mem_chg.2 (.inl rfl)))
      rw [hp] at this
      cases this
    | cons a l =>
      rw [hp] at hsort
      exact (best_law b.moment l a hsort).2
  have cands : ∀ y ∈ b.chg, b.moment y ≤ b.moment b.where_ ∧ (b.moment y = b.moment b.where_ → b.where_ ≤ y) := fun y hy => ⟨hbest.1 y ((hmem y).2 (.inl hy)), hbest.2 y ((hmem y).2 (.inl hy))⟩
  -- x among the changes, or between two of them
  have h0c : (0 : Rat) ∈ b.chg := mem_chg.2 (.inl rfl)
  have hLc : b.len ∈ b.chg := mem_chg.2 (.inr (.inl rfl))
  have hcov : x ∈ b.chg ∨ ∃ l1 p q l2, b.chg = l1 ++ p :: q :: l2 ∧ p < x ∧ x < q := by
    cases hc : b.chg with
    | nil => rw [hc] at h0c; cases h0c
    | cons a c =>
      rw [hc] at hchg h0c hLc
      refine cover c a hchg ?_ ⟨b.len, hLc, hx1⟩
      rcases List.mem_cons.1 h0c with e | e
      · rw [← e]; exact hx0
      · exact Rat.le_trans (Rat.le_of_lt ((List.pairwise_cons.1 hchg).1 0 e)) hx0
  rcases hcov with hin | ⟨l1, p, q, l2, hc, h1, h2⟩
  · exact cands x hin
  have hchg2 := hchg
  rw [hc] at hchg2
  obtain ⟨hpq, hout⟩ := near_out hchg2
  have hout : ∀ y ∈ b.chg, Out p q y := fun y hy => hout y (by rw [← hc]; exact hy)
  have hpc : b.Pc p q := ⟨hout _ (mem_chg.2 (.inr (.inr (.inl rfl)))), hout _ (mem_chg.2 (.inr (.inr (.inr (.inl rfl))))), fun f hf => hout _ (mem_chg.2 (.inr (.inr (.inr (.inr (.inl ⟨f, hf, rfl⟩)))))),
    fun s hs => hout _ (mem_chg.2 (.inr (.inr (.inr (.inr (.inr ⟨s, hs, .inl rfl⟩)))))), fun s hs => hout _ (mem_chg.2 (.inr (.inr (.inr (.inr (.inr ⟨s, hs, .inr rfl⟩))))))⟩
  have hp := cands p (by rw [hc]; exact List.mem_append_right _ (List.mem_cons_self ..))
  have hq := cands q (by rw [hc]; exact List.mem_append_right _ (List.mem_cons_of_mem _ (List.mem_cons_self ..)))
  have ex := piece h.s1 hpc (Rat.le_of_lt h1) (Rat.le_of_lt h2) hpq
  have eq := piece h.s1 hpc (Rat.le_of_lt hpq) Rat.le_refl hpq
  have hzero : ∀ v, v = b.shear p / ldAt p q b.ss → ldAt p q b.ss ≠ 0 → 0 < v → v < q - p → p + v ∈ b.places ∧ b.moment (p + v) = b.moment p + b.shear p * v - ldAt p q b.ss * (v * v) / 2 := by
    intro v hv k0 v0 v1
    refine ⟨(hmem _).2 (.inr ?_), ?_⟩
    · rw [hc]
      refine mem_zeros b ?_ l1 l2
      unfold BmP.zero1
      rw [if_neg k0, ← hv, if_pos ⟨by grind, by grind⟩]
      exact List.mem_singleton.2 rfl
    · have := piece h.s1 hpc (x := p + v) (by grind) (by grind) hpq
      rw [this]; grind
  obtain ⟨r1, r2⟩ := parab (A := b.moment p) (B := b.shear p) (K := ldAt p q b.ss) (D := q - p) (M := b.moment b.where_) (u := x - p) (by grind) (by grind) hp.1 (by rw [← eq]; exact hq.1) (fun k0 v0 v1 => by
    obtain ⟨z1, z2⟩ := hzero _ rfl k0 v0 v1
    rw [← z2]; exact hbest.1 _ z1)
  rw [← ex] at r1 r2
  refine ⟨r1, fun e => ?_⟩
  rcases r2 e with r2 | ⟨k0, hu⟩
  · exact Rat.le_trans (hp.2 r2) (Rat.le_of_lt h1)
  · obtain ⟨z1, z2⟩ := hzero (x - p) hu k0 (by grind) (by grind)
    rw [show p + (x - p) = x by grind] at z1
    exact hbest.2 x z1 e
end Go.Proofs.YtddadjbflgdomaaGreatDoor
namespace Go.Proofs.YtddadjbflgdomaaGreatDoor
theorem places_in {b : BmP} (h : b.Lies) {y : Rat} (hy : y ∈ b.places) : 0 ≤ y ∧ y ≤ b.len := by
  unfold BmP.places at hy
  rw [mem_sortQ, List.mem_append] at hy
  rcases hy with hy | hy
  · exact chg_in h hy
  · obtain ⟨p, hp, q, hq, h1, h2⟩ := zeros_in b b.chg hy
    exact ⟨Rat.le_trans (chg_in h hp).1 (Rat.le_of_lt h1), Rat.le_trans (Rat.le_of_lt h2) (chg_in h hq).2⟩
theorem where_in {b : BmP} (h : b.Lies) : b.where_ ∈ b.places ∧ 0 ≤ b.where_ ∧ b.where_ ≤ b.len := by
  have hm : b.where_ ∈ b.places := by
    have hsort : b.places.Pairwise (· ≤ ·) := sortQ_sorted _
    unfold BmP.where_
    cases hp : b.places with
    | nil =>
      have : (0 : Rat) ∈ b.places := by unfold BmP.places; rw [mem_sortQ, List.mem_append]; exact .inl (mem_chg.2 (.inl rfl))
      rw [hp] at this
      cases this
    | cons a l =>
      rw [hp] at hsort
      exact (best_law b.moment l a hsort).1
  exact ⟨hm, places_in h hm⟩
end Go.Proofs.YtddadjbflgdomaaGreatDoor
namespace Go.Proofs.YtddadjbflgdomaaGreatDoor
set_option maxRecDepth 10000
theorem InD.ofN (z : Int) {D M : Nat} (hD : 0 < D) (h : z.natAbs ≤ M) : InD D M (nrm z (D : Int)) := ⟨z, by rw [nrm_div z (by omega), Rat.divInt_eq_div]; rfl, h⟩
end Go.Proofs.YtddadjbflgdomaaGreatDoor
namespace Go.Mono
open Go
def Result.w {α : Type} : Result α → World
  | .ok _ w => w
  | .halt _ w => w
theorem viewStore_drawn {p : Program} {w w' : World} {at_ : Addr} {u : TypeId} {k : Addr} {v : Value} {b : Bool} {l : List Addr} (h : w.viewStore p at_ u k v b = .ok (w', l)) : w'.drawn = w.drawn := by
  unfold World.viewStore at h
  simp only [bind, Except.bind, pure, Except.pure] at h
  repeat' (split at h)
  all_goals first
    | (injection h with h; injection h with h1 h2; rw [← h1]; done)
    | (cases h; done)
    | skip
theorem farStore_drawn {p : Program} {w w' : World} {a : Addr} {v : Value} {b : Bool} {l : List Addr} (h : w.farStore p a v b = .ok (w', l)) : w'.drawn = w.drawn := by
  unfold World.farStore at h
  split at h
  · split at h
    · rename_i r hr
      injection h with h
      subst h
      exact viewStore_drawn hr
    · cases h
  · cases h
theorem ask_drawn {α : Type} (w : World) (a : Ask α) : w.drawn ≤ (w.ask a).2.drawn := by
  induction a generalizing w with
  | done a => exact Nat.le_refl _
  | ask what range k ih =>
    simp only [World.ask]
    split
    · exact ih _ _
    · exact Nat.le_trans (Nat.le_succ _) (ih _ { w with drawn := w.drawn + 1 })
theorem sys_drawn (w : World) (c : Sys) : w.drawn ≤ (w.sys c).2.drawn := by
  unfold World.sys
  have h := ask_drawn w (Kernel.perform c w.os)
  split
  · exact Nat.le_refl _
  · rename_i r os w2 e
    rw [e] at h
    exact h
theorem run_drawn {α : Type} (p : Program) (s : Sem α) : ∀ w : World, w.drawn ≤ (Result.w (s.run p w)).drawn := by
  induction s with
  | pure a => intro w; exact Nat.le_refl _
  | load m a k ih =>
    intro w; unfold Sem.run
    split
    · exact ih _ _
    · split
      · exact ih _ _
      · exact Nat.le_refl _
  | store m a v k ih =>
    intro w
    cases v <;> simp only [Sem.run] <;> first | exact Nat.le_refl _ | skip
    all_goals
      split
      · split
        · exact Nat.le_refl _
        · exact ih (w.setCell a _)
      · split
        · rename_i h; rw [← farStore_drawn h]; exact ih _
        · exact Nat.le_refl _
  | new o k ih => intro w; exact ih _ { w with heap := w.heap.push o }
  | shape r k ih => intro w; exact ih _ w
  | freeze a n k ih =>
    intro w
    have h := ih (w.freeze a n)
    have e : (w.freeze a n).drawn = w.drawn := by unfold World.freeze; split <;> rfl
    rw [e] at h
    exact h
  | frozen a k ih => intro w; exact ih _ w
  | getObj r k ih =>
    intro w; unfold Sem.run
    split
    · exact Nat.le_refl _
    · exact ih _ w
    · exact Nat.le_refl _
  | setObj r o k ih =>
    intro w; unfold Sem.run
    split
    · exact Nat.le_refl _
    · exact ih { w with heap := w.heap.setIfInBounds r o }
    · exact Nat.le_refl _
  | choose q k ih =>
    intro w; unfold Sem.run
    split
    · exact ih _ w
    · exact Nat.le_trans (Nat.le_succ _) (ih _ { w with drawn := w.drawn + 1 })
  | sys c k ih => intro w; exact Nat.le_trans (sys_drawn w c) (ih _ _)
  | program k ih => intro w; exact ih _ w
  | mark m k ih => intro w; exact ih w
  | halt h => intro w; exact Nat.le_refl _
theorem runT_drawn {α : Type} (p : Program) (s : Sem α) : ∀ (w : World) (es : Array Event), w.drawn ≤ (Result.w (s.runT p w es).1).drawn := by
  induction s with
  | pure a => intro w es; exact Nat.le_refl _
  | load m a k ih =>
    intro w es; unfold Sem.runT
    split
    · exact ih _ _ _
    · split
      · exact ih _ _ _
      · exact Nat.le_refl _
  | store m a v k ih =>
    intro w es
    cases v <;> simp only [Sem.runT] <;> first | exact Nat.le_refl _ | skip
    all_goals
      split
      · split
        · exact Nat.le_refl _
        · exact ih (w.setCell a _) _
      · split
        · rename_i h; rw [← farStore_drawn h]; exact ih _ _
        · exact Nat.le_refl _
  | new o k ih => intro w es; exact ih _ { w with heap := w.heap.push o } _
  | shape r k ih => intro w es; exact ih _ w _
  | freeze a n k ih =>
    intro w es
    have h := ih (w.freeze a n) es
    have e : (w.freeze a n).drawn = w.drawn := by unfold World.freeze; split <;> rfl
    rw [e] at h
    exact h
  | frozen a k ih => intro w es; exact ih _ w _
  | getObj r k ih =>
    intro w es; unfold Sem.runT
    split
    · exact Nat.le_refl _
    · exact ih _ w _
    · exact Nat.le_refl _
  | setObj r o k ih =>
    intro w es; unfold Sem.runT
    split
    · exact Nat.le_refl _
    · exact ih { w with heap := w.heap.setIfInBounds r o } _
    · exact Nat.le_refl _
  | choose q k ih =>
    intro w es; unfold Sem.runT
    split
    · exact ih _ w _
    · exact Nat.le_trans (Nat.le_succ _) (ih _ { w with drawn := w.drawn + 1 } _)
  | sys c k ih => intro w es; exact Nat.le_trans (sys_drawn w c) (ih _ _ _)
  | program k ih => intro w es; exact ih _ w _
  | mark m k ih => intro w es; exact ih w _
  | halt h => intro w es; exact Nat.le_refl _
/-- The world that a step leaves. -/
def gw : GStep → World
  | .go _ w _ => w
  | .comm _ _ _ _ w _ => w
  | .spawn _ _ w _ => w
  | .count _ w _ => w
  | .timer _ _ w _ => w
  | .alone _ _ w _ => w
  | .newcoro _ _ _ w _ => w
  | .coroswitch _ _ _ w _ => w
  | .collect _ w _ => w
  | .watch _ w _ => w
  | .ended _ w _ => w
theorem gw_after (es : Array Event) (s : GStep) : gw (s.after es) = gw s := by cases s <;> rfl
/-- No fewer draws than before. -/
def Up (w : World) (s : GStep) : Prop := w.drawn ≤ (gw s).drawn
theorem Up.after {w : World} {s : GStep} {es : Array Event} (h : Up w s) : Up w (s.after es) := by unfold Up; rw [gw_after]; exact h
theorem Up.trans {w w' : World} {s : GStep} (h : w.drawn ≤ w'.drawn) (h' : Up w' s) : Up w s := Nat.le_trans h h'
theorem up_ite {w : World} {c : Prop} [Decidable c] {a b : GStep} (ha : Up w a) (hb : Up w b) : Up w (if c then a else b) := by
  split
  · exact ha
  · exact hb
theorem up_doReturn (p : Program) (main : Bool) (fr : Frame) (callers : List Frame) (dying : Option Dying) (v : Value) (w : World) : Up w (doReturn p main fr callers dying v w) := by
  unfold doReturn
  repeat' split
  all_goals exact Nat.le_refl w.drawn
theorem up_endWith (w : World) (fd : Nat) (text : ByteArray) (o : Outcome) : Up w (endWith w fd text o) := by
  unfold endWith
  have h := sys_drawn w (.write fd text)
  simp only
  generalize w.sys (.write fd text) = q at h
  obtain ⟨r, w2⟩ := q
  have h : w.drawn ≤ w2.drawn := h
  split
  · rename_i e
    injection e with e1 e2
    subst e2
    exact up_ite h h
  · rename_i e
    injection e with e1 e2
    subst e2
    exact h
  · rename_i e
    injection e with e1 e2
    subst e2
    exact h
theorem up_dieOf (fr : Frame) (ahead : List ByteArray) (m : String) (whole : Bool) (w : World) : Up w (dieOf fr ahead m whole w) := Nat.le_refl w.drawn
theorem up_endThrow (fr : Frame) (m : String) (w : World) : Up w (endThrow fr m w) := Nat.le_refl w.drawn
theorem up_endPrinting (p : Program) (fr : Frame) (v : Value) (w : World) : Up w (endPrinting p fr v w) := by
  unfold endPrinting
  extract_lets type what
  clear_value what
  cases what
  · exact Nat.le_refl w.drawn
  · exact up_endThrow ..
theorem up_endFatal (p : Program) (fr : Frame) (callers : List Frame) (dying : Option Dying) (m : String) (w : World) : Up w (endFatal p fr callers dying m w) := by
  unfold endFatal
  extract_lets chain raw shown
  have h := run_drawn p shown w
  generalize Sem.run p shown w = r at h
  cases r with
  | ok a w2 => exact Up.trans h (up_dieOf ..)
  | halt e w2 => cases e <;> exact h
theorem up_callDeferred (p : Program) (fr : Frame) (callers : List Frame) (dying : Option Dying) (d : Deferred) (w : World) : Up w (callDeferred p fr callers dying d w) := by
  unfold callDeferred
  refine up_ite (Nat.le_refl w.drawn) ?_
  have h := runT_drawn p (invoke d.target d.args) w #[]
  generalize Sem.runT p (invoke d.target d.args) w #[] = q at h
  obtain ⟨r, es⟩ := q
  refine Up.after ?_
  cases r with
  | ok a w2 =>
    have h : w.drawn ≤ w2.drawn := h
    cases a with
    | coroswitch c exit => cases exit <;> exact h
    | alone on v => cases on <;> exact h
    | recover =>
      show Up w (match fr.mode, tryRecover fr callers with
        | .returning, some (_, callers) => GStep.go { frame := fr, callers, status := .running, dying } w2
        | _, _ => GStep.go { frame := fr, callers, status := .running, dying } w2)
      split <;> exact h
    | _ => exact h
  | halt e w2 =>
    have h : w.drawn ≤ w2.drawn := h
    cases e
    all_goals first | exact h | exact Up.trans h (up_endFatal ..) | exact Up.trans h (up_endThrow ..)
theorem up_unwind (p : Program) (main : Bool) (fr : Frame) (callers : List Frame) (dying : Option Dying) (w : World) : Up w (unwind p main fr callers dying w) := by
  unfold unwind
  split
  · rename_i block _ ds _
    have h := runT_drawn p (Instr.takeDeferred block) w #[]
    generalize Sem.runT p (Instr.takeDeferred block) w #[] = q at h
    obtain ⟨r, es⟩ := q
    refine Up.after ?_
    cases r <;> exact h
  · exact up_callDeferred ..
  · split
    · exact Nat.le_refl w.drawn
    · rename_i chain _
      split
      · exact Nat.le_refl w.drawn
      split
      · exact Nat.le_refl w.drawn
      split
      · split
        · exact Nat.le_refl w.drawn
        have h := run_drawn p (reportChain chain false) w
        generalize Sem.run p (reportChain chain false) w = r at h
        cases r with
        | ok a w2 => exact h
        | halt e w2 => cases e <;> exact h
      · split
        · exact up_endPrinting ..
        · exact Nat.le_refl w.drawn
    · split
      · exact up_doReturn ..
      · rename_i fn _
        have h := runT_drawn p (results fn fr.tmps) w #[]
        generalize Sem.runT p (results fn fr.tmps) w #[] = q at h
        obtain ⟨r, es⟩ := q
        refine Up.after ?_
        cases r with
        | ok a w2 => exact Up.trans h (up_doReturn ..)
        | halt e w2 => cases e <;> exact h
theorem up_early (p : Program) (fr : Frame) (callers : List Frame) (dying : Option Dying) (g : Nat) (w : World) : Up w (early p fr callers dying g w) := by
  unfold early
  extract_lets refuse notYet
  have hn : ∀ w2 : World, Up w2 (notYet w2) := fun w2 => by
    show Up w2 (match w2.heap[g]? with | some (.pending c elem) => _ | _ => _)
    split <;> exact Nat.le_refl w2.drawn
  split
  · exact hn w
  split
  · exact Nat.le_refl w.drawn
  extract_lets there
  have ht : ∀ w2 : World, Up w2 (there w2) := fun w2 => Nat.le_refl w2.drawn
  split
  · exact hn w
  split
  · exact hn w
  split
  · exact Nat.le_refl w.drawn
  · exact ht w
  · exact Nat.le_refl w.drawn
  · exact hn w
  · split
    · exact ht w
    split
    · exact hn w
    have h := run_drawn p (choose (.early g)) w
    generalize Sem.run p (choose (.early g)) w = r at h
    cases r with
    | ok a w2 =>
      cases a
      · exact Up.trans h (hn w2)
      · exact Up.trans h (ht w2)
    | halt e w2 => exact h
theorem up_writeK (p : Program) (w : World) (on : GoStatus → Fatal → World → Array Event → GStep) (hon : ∀ a b w2 c, gw (on a b w2 c) = w2) (s : Sem Unit) (f1 f2 : Fatal) :
    Up w (match s.runT p w #[] with
      | (.ok _ w, es) => on .running f1 w es
      | (.halt .blocked w, _) => on .blocked f2 w #[]
      | (.halt (.unsupported u) w, _) => .ended (.unsupported u "") w
      | (.halt _ w, _) => .ended (.stuck "the report of a fatal error" "") w) := by
  have h := runT_drawn p s w #[]
  generalize s.runT p w #[] = q at h
  obtain ⟨r, es⟩ := q
  cases r with
  | ok a w2 =>
    show w.drawn ≤ (gw (on _ _ w2 es)).drawn
    rw [hon]; exact h
  | halt e w2 =>
    cases e <;> first | exact h | (show w.drawn ≤ (gw (on _ _ w2 #[])).drawn; rw [hon]; exact h)
theorem up_writeOn (p : Program) (fr : Frame) (d : Dying) (f : Fatal) (w : World) : Up w (writeOn p fr d f w) := by
  unfold writeOn
  extract_lets on
  split
  · exact Nat.le_refl w.drawn
  · rename_i piece rest _
    exact up_writeK p w on (fun _ _ _ _ => rfl) _ _ _
theorem up_die (p : Program) (fr : Frame) (d : Dying) (w : World) : Up w (die p fr d w) := by
  unfold die
  split
  · exact up_writeOn ..
  split
  · split
    · exact Nat.le_refl w.drawn
    · exact up_endWith ..
  · rename_i v mark rest _
    simp only
    split
    · exact Nat.le_refl w.drawn
    · rename_i s _
      have h := run_drawn p (withAddress s) w
      generalize Sem.run p (withAddress s) w = r at h
      cases r <;> exact h
    · rename_i t recv name _
      have h := runT_drawn p (invoke (.fn (.method name) #[]) #[.iface t recv]) w #[]
      generalize Sem.runT p (invoke (.fn (.method name) #[]) #[.iface t recv]) w #[] = q at h
      obtain ⟨r, es⟩ := q
      refine Up.after ?_
      cases r with
      | ok a w2 =>
        have h : w.drawn ≤ w2.drawn := h
        cases a with
        | value v => cases v <;> first | exact h | exact Nat.le_refl w.drawn
        | _ => first | exact h | exact Nat.le_refl w.drawn
      | halt e w2 =>
        have h : w.drawn ≤ w2.drawn := h
        cases e <;> first | exact h | exact Nat.le_refl w.drawn | exact Up.trans h (up_endPrinting ..)
    · exact Nat.le_refl w.drawn
theorem up_apply (p : Program) (listen : Bool) (fr : Frame) (callers : List Frame) (dying : Option Dying) (s : Sem Next) (w : World) : Up w (stepG.apply p listen fr callers dying s w) := by
  unfold stepG.apply
  extract_lets go kind
  have h : w.drawn ≤ (Result.w (if listen = true then s.runT p w #[] else (s.run p w, #[])).1).drawn := by
    split
    · exact runT_drawn p s w #[]
    · exact run_drawn p s w
  generalize (if listen = true then s.runT p w #[] else (s.run p w, #[])) = q at h
  obtain ⟨r, es⟩ := q
  simp only
  refine Up.after ?_
  cases r with
  | ok a w2 =>
    have h : w.drawn ≤ w2.drawn := h
    cases a with
    | callThen d resume saved wrapper => simp only; split <;> exact h
    | row row args => simp only; split <;> exact h
    | stack resume saved => simp only; split <;> exact h
    | recover =>
      simp only
      split <;> exact h
    | spawn d =>
      simp only
      refine up_ite ?_ ?_
      · exact Up.trans h (up_endThrow ..)
      · exact h
    | _ => exact h
  | halt e w2 =>
    have h : w.drawn ≤ w2.drawn := h
    cases e with
    | fatal m => exact Up.trans h (up_endFatal ..)
    | throw m => exact Up.trans h (up_endThrow ..)
    | unsupported u => cases u <;> first | exact h | exact Up.trans h (up_early ..)
    | _ => exact h
theorem up_oper (p : Program) (listen : Bool) (fr : Frame) (callers : List Frame) (dying : Option Dying) (w : World) : Up w (stepG.oper p listen fr callers dying w) := by
  unfold stepG.oper
  split
  · exact Nat.le_refl w.drawn
  · split <;> exact up_apply ..
theorem up_exec (p : Program) (main listen : Bool) (fr : Frame) (callers : List Frame) (dying : Option Dying) (w : World) : Up w (stepG.exec p main listen fr callers dying w) := by
  unfold stepG.exec
  extract_lets go thru lost leave
  have hgo : ∀ (f : Frame) (w2 : World), Up w2 (go f w2) := fun f w2 => Nat.le_refl w2.drawn
  have hto : ∀ t, Up w (thru t) := fun t => Nat.le_refl w.drawn
  have hlost : ∀ t, Up w (lost t) := fun t => Nat.le_refl w.drawn
  have hleave : ∀ j, Up w (leave j) := fun j => by
    show Up w (match fr.roundOf with | none => _ | some l => _)
    split
    · refine up_ite (hgo _ _) (hlost _)
    · rename_i l _
      have h := runT_drawn p (Instr.endRound l j) w #[]
      simp only
      generalize Sem.runT p (Instr.endRound l j) w #[] = q at h
      obtain ⟨r, es⟩ := q
      refine Up.after ?_
      cases r with
      | ok a w2 => exact Up.trans h (up_doReturn ..)
      | halt e w2 => exact h
  clear_value leave lost thru go
  split
  all_goals first | exact hleave _ | exact hto _ | exact Nat.le_refl w.drawn | exact up_apply .. | skip
  · split
    · exact hto _
    · exact hlost _
  · rename_i id k _
    cases exitTo id k
    · exact hleave _
    · exact hto _
  · rename_i l k _
    cases gotoIn l k
    · exact hleave _
    · exact hto _
  · rename_i f params assign body k _
    have h := runT_drawn p (Instr.enterLoop fr.fn fr.tmps params assign body fr.roundOf) w #[]
    generalize Sem.runT p (Instr.enterLoop fr.fn fr.tmps params assign body fr.roundOf) w #[] = q at h
    obtain ⟨r, es⟩ := q
    refine Up.after ?_
    cases r with
    | ok a w2 => exact Up.trans h (up_apply ..)
    | halt e w2 => exact h
  · rename_i l k _
    have h := runT_drawn p (Instr.endLoop l) w #[]
    generalize Sem.runT p (Instr.endLoop l) w #[] = q at h
    obtain ⟨r, es⟩ := q
    refine Up.after ?_
    cases r with
    | ok a w2 => exact Up.trans h (hgo _ _)
    | halt e w2 => cases e <;> first | exact Up.trans h (hgo _ _) | exact h
  · rename_i row args _ _
    cases Extern.next row
    · exact hlost _
    · exact up_apply ..
  · rename_i id ops draw k _
    refine up_ite (hto _) ?_
    have h := run_drawn p (choose (.order fr.fn id)) w
    generalize Sem.run p (choose (.order fr.fn id)) w = r at h
    cases r with
    | ok a w2 => exact Up.trans h (hgo _ _)
    | halt e w2 => exact h
  · exact up_ite (up_oper ..) (hgo _ _)
theorem up_stepG (p : Program) (main : Bool) (g : Goroutine) (w : World) (listen : Bool) : Up w (stepG p main g w listen) := by
  unfold stepG
  simp only
  split
  · exact up_die ..
  · exact up_exec ..
  · exact up_unwind ..
theorem run_le {α : Type} {p : Program} {s : Sem α} {w w2 : World} {a : α} (e : s.run p w = .ok a w2) : w.drawn ≤ w2.drawn := by
  have h := run_drawn p s w
  rw [e] at h
  exact h
/-- The like for a machine's step. -/
def Up2 (w : World) : Stepped → Prop
  | .next m => w.drawn ≤ m.world.drawn
  | .ended _ _ => True
theorem Up2.trans {w w' : World} {s : Stepped} (h : w.drawn ≤ w'.drawn) (h' : Up2 w' s) : Up2 w s := by
  cases s with
  | next m => exact Nat.le_trans h h'
  | ended o w => trivial
theorem up2_ite {w : World} {c : Prop} [Decidable c] {a b : Stepped} (ha : Up2 w a) (hb : Up2 w b) : Up2 w (if c then a else b) := by
  split
  · exact ha
  · exact hb
theorem up2_ite1 {w : World} {c : Prop} [Decidable c] {a b : Stepped × Array MemOp} (ha : Up2 w a.1) (hb : Up2 w b.1) : Up2 w (if c then a else b).1 := by
  split
  · exact ha
  · exact hb
theorem waiting_drawn {rest : Rest} {cases : Array CommCase} {w w' : World} (h : waitingAt rest cases w = some w') : w'.drawn = w.drawn := by
  unfold waitingAt at h
  split at h
  · split at h
    · injection h with h; rw [← h]
    · cases h
  · injection h with h; rw [← h]
theorem up2_communicate (p : Program) (rest : Rest) (gs : Array Goroutine) (i : Nat) (g : Goroutine) (cases : Array CommCase) (blocking : Bool) (shape : CommShape) (w : World) : Up2 w (communicate p rest gs i g cases blocking shape w).1 := by
  unfold communicate
  extract_lets put illMade me other ready
  have hput : ∀ g gs w2 ops, w.drawn ≤ w2.drawn → Up2 w (put g gs w2 ops).1 := fun g gs w2 ops h => h
  clear_value put
  refine up2_ite1 trivial ?_
  refine up2_ite1 ?_ ?_
  · refine up2_ite1 ?_ (hput _ _ _ _ (Nat.le_refl _))
    split
    · rename_i w2 e
      show w.drawn ≤ w2.drawn
      rw [waiting_drawn e]
      exact Nat.le_refl _
    · trivial
  · dsimp only
    split
    · trivial
    · rename_i k c way w2 e
      have h : w.drawn ≤ w2.drawn := run_le e
      split
      · have h3 := run_drawn p (runtimePanic (.plain "send on closed channel") : Sem Unit) w2
        generalize Sem.run p (runtimePanic (.plain "send on closed channel") : Sem Unit) w2 = r at h3
        cases r with
        | ok a w3 => trivial
        | halt e w3 => cases e <;> first | trivial | exact hput _ _ _ _ (Nat.le_trans h h3)
      · exact hput _ _ _ _ h
      · exact hput _ _ _ _ h
      · split
        · exact hput _ _ _ _ h
        · split
          · rename_i b w3 e3
            have h3 := Nat.le_trans h (run_le e3)
            exact hput _ _ _ _ h3
          · trivial
      · exact hput _ _ _ _ h
      · exact hput _ _ _ _ h
      · trivial
theorem drain_drawn (w : World) (c : Nat) : (drain w c).2.drawn = w.drawn := by
  unfold drain
  split <;> rfl
theorem retime_drawn (m : Machine) (k : Nat) (t : Timer) (a b : Nat) : (retime m k t a b).2.world.drawn = m.world.drawn := by
  unfold retime
  cases t.chan with
  | none => rfl
  | some c => exact drain_drawn m.world c
theorem timerOp_drawn {m m' : Machine} {op : TimerOp} {v : Value} (h : timerOp m op = .ok (v, m')) : m'.world.drawn = m.world.drawn := by
  unfold timerOp at h
  have named : ∀ {var : Addr} {f : Nat → Timer → Value × Machine} {w : World}, (∀ k t, (f k t).2.world.drawn = w.drawn) → timerOp.named m var f = .ok (v, m') → m'.world.drawn = w.drawn := fun {var f w} hf h => by
    unfold timerOp.named at h
    split at h
    · injection h with h
      have := hf ‹_› (m.rest.timers.getD ‹_› default)
      rw [h] at this
      exact this
    · cases h
  split at h
  · split at h
    · injection h with h; injection h with _ h; subst h; rfl
    · split at h
      · split at h
        · cases h
        · injection h with h; injection h with _ h; subst h; rfl
      · cases h
  · exact named (fun k t => retime_drawn ..) h
  · split at h
    · rename_i m2 e
      have e2 : m2.world.drawn = m.world.drawn := by
        unfold timerOp.opened at e
        split at e
        · split at e
          · injection e with e; rw [← e]
          · cases e
        · injection e with e; rw [← e]
      rw [← e2]
      exact named (fun k t => retime_drawn ..) h
    · cases h
  · injection h with h; injection h with _ h; subst h; rfl
theorem up2_look (p : Program) (gs : Array Goroutine) (rest : Rest) (w : World) : Up2 w (look p gs rest w) := by
  unfold look
  split
  · dsimp only
    split
    · trivial
    split
    · trivial
    split
    · rename_i found cleanups w2 e
      have h := run_le e
      exact h
    all_goals trivial
  · trivial
theorem up2_serve (p : Program) (m : Machine) (k : Nat) : Up2 m.world (serve p m k) := by
  unfold serve
  split
  · trivial
  · exact Nat.le_refl m.world.drawn
  · dsimp only
    split
    · trivial
    · exact Nat.le_refl m.world.drawn
theorem up2_runT (p : Program) (m : Machine) (i : Nat) (listen : Bool) : Up2 m.world (runT p m i listen).1 := by
  unfold runT
  extract_lets rest world
  obtain ⟨g, gs⟩ := m.gs.swapAt! i { (default : Goroutine) with status := .finished }
  dsimp only
  have h := up_stepG p (i == 0) g world listen
  generalize stepG p (i == 0) g world listen = s at h
  have h : m.world.drawn ≤ (gw s).drawn := h
  cases s with
  | ended o w es => trivial
  | comm g cases blocking shape w es => exact Up2.trans h (up2_communicate ..)
  | go g w es => exact h
  | spawn g c w es => exact h
  | count g w es =>
    dsimp only
    exact up2_ite trivial h
  | alone g on w es => exact h
  | collect g w es => exact Up2.trans h (up2_look ..)
  | watch g w es => exact h
  | newcoro g c d w es => exact h
  | coroswitch g c exit w es =>
    dsimp only
    split
    · exact h
    · exact h
    · trivial
  | timer g op w es =>
    dsimp only
    split
    · rename_i v m2 e
      have h2 := timerOp_drawn e
      show m.world.drawn ≤ m2.world.drawn
      rw [h2]
      exact h
    · exact h
    · trivial
    · trivial
/-- .. and for what is to move. -/
def Up3 (w : World) : Move → Prop
  | .goroutine m _ => w.drawn ≤ m.world.drawn
  | .machine s _ => Up2 w s
theorem Up3.trans {w w' : World} {s : Move} (h : w.drawn ≤ w'.drawn) (h' : Up3 w' s) : Up3 w s := by
  cases s with
  | goroutine m i => exact Nat.le_trans h h'
  | machine s _ => exact Up2.trans h h'
theorem up3_askOn (p : Program) (m : Machine) : Up3 m.world (askOn p m) := by
  unfold askOn
  extract_lets mono rs ds pick
  have hpick : ∀ m2 : Machine, Up3 m2.world (pick m2) := fun m2 => by
    show Up3 m2.world (match (choose (.sched rs.length)).run p m2.world with | .halt _ w => _ | .ok k world => _)
    split
    · trivial
    · rename_i k w2 e
      have h := run_le e
      split
      · exact h
      · split
        · trivial
        · rename_i n w3 e3
          exact Nat.le_trans h (run_le e3)
  clear_value pick
  split
  · trivial
  · rename_i k w2 e
    have h : m.world.drawn ≤ w2.drawn := run_le e
    dsimp only
    split
    · exact Up2.trans h (up2_serve p { m with world := w2 } _)
    cases rs with
    | nil =>
      dsimp only
      generalize ahead { m with world := w2 } false = t
      cases t with
      | some t => exact h
      | none =>
        dsimp only
        split
        · exact h
        · split <;> trivial
    | cons r rs =>
      dsimp only
      generalize ahead { m with world := w2 } true = t
      cases t with
      | none => exact Up3.trans h (hpick _)
      | some t =>
        dsimp only
        split
        · trivial
        · rename_i w3 e3
          exact Up3.trans (w' := w3) (Nat.le_trans h (run_le e3)) (hpick _)
        · rename_i w3 e3
          have h3 := Nat.le_trans h (run_le e3)
          exact h3
        · rename_i w3 e3
          exact Up3.trans (w' := w3) (Nat.le_trans h (run_le e3)) (hpick _)
theorem up3_ask (p : Program) (m : Machine) : Up3 m.world (ask p m) := by
  unfold ask
  split
  · split
    · trivial
    · rename_i w2 e
      have h : m.world.drawn ≤ w2.drawn := run_le e
      have h2 := up2_look p m.gs m.rest w2
      split
      · rename_i m3 e3
        rw [e3] at h2
        exact Up3.trans (Nat.le_trans h h2) (up3_askOn ..)
      · rename_i s hs
        exact Up2.trans h h2
    · rename_i w2 _ e
      exact Up3.trans (run_le e) (up3_askOn p { m with world := w2 })
  · exact up3_askOn ..
theorem up3_move (p : Program) (m : Machine) : Up3 m.world (move p m) := by
  unfold move
  split
  · split
    · exact Nat.le_refl m.world.drawn
    · trivial
  · split
    · split
      · exact Nat.le_refl m.world.drawn
      · exact up3_ask p { m with rest := { m.rest with slice := none } }
    · exact up3_ask ..
theorem up2_step (p : Program) (m : Machine) : Up2 m.world (step p m) := by
  unfold step stepT
  have h := up3_move p m
  generalize move p m = s at h
  cases s with
  | goroutine m2 i => exact Up2.trans h (up2_runT ..)
  | machine s ops => exact h
theorem up_runN (p : Program) : ∀ (n : Nat) (m : Machine), Up2 m.world (runN p n m)
  | 0, m => Nat.le_refl m.world.drawn
  | n + 1, m => by
    unfold runN
    have h := up2_step p m
    generalize step p m = s at h
    cases s with
    | next m2 => exact Up2.trans h (up_runN p n m2)
    | ended o w => exact h
/-- **The count of a run's draws never falls.** -/
theorem steps_drawn {p : Program} {m m' : Machine} (h : Steps p m m') : m.world.drawn ≤ m'.world.drawn := by
  obtain ⟨n, hn⟩ := h
  have := up_runN p n m
  rw [hn] at this
  exact this
theorem calls_drawn {p : Program} {f : FuncId} {args : Array Value} {w : World} {R : Ending → World → Prop} (h : Calls p f args w R) : Calls p f args w fun e w' => R e w' ∧ ∀ v, e = .returned v → w.drawn ≤ w'.drawn := fun cs => by
  obtain ⟨e, w', fr, hR, hc, h1, h2⟩ := h cs
  refine ⟨e, w', fr, ⟨hR, fun v hv => ?_⟩, hc, h1, h2⟩
  subst hv
  exact steps_drawn hc
end Go.Mono
namespace Go.Proofs
open Go.Shelf
def Tryz.laysF6_ren : Go.Shelf.Ren := ⟨fun | 6 => 34 | 14 => 69 | 15 => 70 | 20 => 103 | 21 => 104 | 22 => 105 | 23 => 106 | 24 => 107 | 25 => 108 | 26 => 109 | 27 => 110 | 28 => 111 | 29 => 112 | 46 => 133 | 47 => 134 | 48 => 135 | 49 => 136 | 50 => 137 | 57 => 157 | n => n, fun | 0 => 0 | 3 => 3 | 4 => 4 | 5 => 5 | 9 => 9 | 22 => 66 | 24 => 27 | 25 => 72 | 39 => 111 | 45 => 146 | 46 => 147 | 50 => 151 | 53 => 154 | 55 => 156 | 66 => 179 | 70 => 183 | 76 => 204 | 77 => 195 | n => n, fun n => n⟩
theorem Tryz.laysF6 : Go.Proofs.SlLaysF.n6 Tryz.prog Tryz.laysF6_ren := {
  mixed := by kernel_rfl
  f6 := ⟨Tryz.f34.name, by kernel_rfl, Tryz.func34.trans (congrArg some (by kernel_rfl))⟩
  f14 := ⟨Tryz.f69.name, by kernel_rfl, Tryz.func69.trans (congrArg some (by kernel_rfl))⟩
  f15 := Tryz.func70.trans (congrArg some (by kernel_rfl))
  f20 := ⟨Tryz.f103.name, by kernel_rfl, Tryz.func103.trans (congrArg some (by kernel_rfl))⟩
  f21 := ⟨Tryz.f104.name, by kernel_rfl, Tryz.func104.trans (congrArg some (by kernel_rfl))⟩
  f22 := ⟨Tryz.f105.name, by kernel_rfl, Tryz.func105.trans (congrArg some (by kernel_rfl))⟩
  f23 := ⟨Tryz.f106.name, by kernel_rfl, Tryz.func106.trans (congrArg some (by kernel_rfl))⟩
  f24 := ⟨Tryz.f107.name, by kernel_rfl, Tryz.func107.trans (congrArg some (by kernel_rfl))⟩
  f25 := ⟨Tryz.f108.name, by kernel_rfl, Tryz.func108.trans (congrArg some (by kernel_rfl))⟩
  f26 := ⟨Tryz.f109.name, by kernel_rfl, Tryz.func109.trans (congrArg some (by kernel_rfl))⟩
  f27 := ⟨Tryz.f110.name, by kernel_rfl, Tryz.func110.trans (congrArg some (by kernel_rfl))⟩
  f28 := Tryz.func111.trans (congrArg some (by kernel_rfl))
  f29 := Tryz.func112.trans (congrArg some (by kernel_rfl))
  f46 := ⟨Tryz.f133.name, by kernel_rfl, Tryz.func133.trans (congrArg some (by kernel_rfl))⟩
  f47 := Tryz.func134.trans (congrArg some (by kernel_rfl))
  f48 := Tryz.func135.trans (congrArg some (by kernel_rfl))
  f49 := ⟨Tryz.f136.name, by kernel_rfl, Tryz.func136.trans (congrArg some (by kernel_rfl))⟩
  f50 := ⟨Tryz.f137.name, by kernel_rfl, Tryz.func137.trans (congrArg some (by kernel_rfl))⟩
  f57 := ⟨Tryz.f157.name, by kernel_rfl, Tryz.func157.trans (congrArg some (by kernel_rfl))⟩
  t0 := Tryz.underlying0
  a0 := Tryz.isAgg0
  z0 := Tryz.sizeOf0
  v0 := Tryz.zeroValue0
  t3 := Tryz.underlying3
  a3 := Tryz.isAgg3
  z3 := Tryz.sizeOf3
  v3 := Tryz.zeroValue3
  t4 := Tryz.underlying4
  a4 := Tryz.isAgg4
  z4 := Tryz.sizeOf4
  v4 := Tryz.zeroValue4
  t5 := Tryz.underlying5
  a5 := Tryz.isAgg5
  z5 := Tryz.sizeOf5
  v5 := Tryz.zeroValue5
  t9 := Tryz.underlying9
  a9 := Tryz.isAgg9
  z9 := Tryz.sizeOf9
  v9 := Tryz.zeroValue9
  t22 := Tryz.underlying66
  a22 := Tryz.isAgg66
  z22 := Tryz.sizeOf66
  v22 := Tryz.zeroValue66
  a24 := Tryz.isAgg27
  z24 := Tryz.sizeOf27
  t25 := Tryz.underlying72
  a25 := Tryz.isAgg72
  z25 := Tryz.sizeOf72
  v25 := Tryz.zeroValue72
  t39 := Tryz.underlying111
  a39 := Tryz.isAgg111
  z39 := Tryz.sizeOf111
  v39 := Tryz.zeroValue111
  t45 := Tryz.underlying146
  a45 := Tryz.isAgg146
  z45 := Tryz.sizeOf146
  v45 := Tryz.zeroValue146
  t46 := Tryz.underlying147
  a46 := Tryz.isAgg147
  z46 := Tryz.sizeOf147
  v46 := Tryz.zeroValue147
  t50 := Tryz.underlying151
  a50 := Tryz.isAgg151
  z50 := Tryz.sizeOf151
  v50 := Tryz.zeroValue151
  t53 := Tryz.underlying154
  a53 := Tryz.isAgg154
  z53 := Tryz.sizeOf154
  v53 := Tryz.zeroValue154
  t55 := Tryz.underlying156
  a55 := Tryz.isAgg156
  z55 := Tryz.sizeOf156
  v55 := Tryz.zeroValue156
  t66 := Tryz.underlying179
  a66 := Tryz.isAgg179
  z66 := Tryz.sizeOf179
  v66 := Tryz.zeroValue179
  t70 := Tryz.underlying183
  a70 := Tryz.isAgg183
  z70 := Tryz.sizeOf183
  v70 := Tryz.zeroValue183
  t76 := Tryz.underlying204
  a76 := Tryz.isAgg204
  z76 := Tryz.sizeOf204
  v76 := Tryz.zeroValue204
  t77 := Tryz.underlying195
  a77 := Tryz.isAgg195
  z77 := Tryz.sizeOf195
  v77 := Tryz.zeroValue195 }
end Go.Proofs
namespace Go.Proofs.YtddadjbflgdomaaGreatDoor
open Go Go.RowKit Go.Am Go.Lib
set_option maxRecDepth 10000
theorem insQ_perm (x : Rat) : ∀ l, (insQ x l).Perm (x :: l)
  | [] => .refl _
  | y :: l => by
    unfold insQ
    split
    · exact .refl _
    · exact ((insQ_perm x l).cons y).trans (.swap x y l)
theorem sortQ_perm (l : List Rat) : (sortQ l).Perm l := by
  have : ∀ (l s : List Rat), (l.foldl (fun s x => insQ x s) s).Perm (l ++ s) := by
    intro l
    induction l with
    | nil => exact fun s => .refl _
    | cons x l ih => exact fun s => (ih _).trans (((insQ_perm x s).append_left l).trans List.perm_middle)
  have h := this l []
  rwa [List.append_nil] at h
theorem sortQ_of {l s : List Rat} (h : s.Perm l) (hs : s.Pairwise (· ≤ ·)) : s = sortQ l :=
  List.Perm.eq_of_pairwise (le := (· ≤ ·)) (fun _ _ _ _ h1 h2 => Rat.le_antisymm h1 h2) hs (sortQ_sorted l) (h.trans (sortQ_perm l).symm)
section
variable {α : Type} [Inhabited α] (enc : α → Value)
theorem en_get {l : List α} {j : Nat} (h : j < l.length) (junk : List Value) : (l.map enc ++ junk)[j]? = some (enc l.toArray[j]!) := by
  rw [List.getElem?_append_left (by simpa using h), List.getElem?_map, List.getElem?_eq_getElem h, getElem!_pos l.toArray j (by simpa using h)]; simp
theorem en_holds {W : World} {g : Nat} {zs : List α} {junk : List Value} {ty : TypeId} (h : W.heap[g]? = some (.cells (zs.map enc ++ junk).toArray ty (0, 0))) : Sort.Holds enc W g 0 zs.toArray := fun j hj => by
  have hj' : j < zs.length := by simpa using hj
  have h1 := en_get enc hj' junk
  constructor
  · simp only [World.cell?, h, Nat.zero_add]
    rw [List.getElem?_toArray]; exact h1
  · simp [World.frozen?, h]
theorem putCells_en {zs zs' : List α} (hl : zs'.length = zs.length) (junk : List Value) : Sort.putCells enc 0 zs'.toArray (zs.map enc ++ junk).toArray = (zs'.map enc ++ junk).toArray := by
  apply Array.ext_getElem?
  intro k
  simp only [Sort.putCells, Array.getElem?_mapIdx, List.getElem?_toArray, List.size_toArray, Nat.zero_add, Nat.sub_zero, Nat.zero_le, true_and]
  by_cases hk : k < zs.length
  · rw [en_get enc hk, en_get enc (show k < zs'.length by omega), Option.map_some, if_pos (by omega)]
  · rw [List.getElem?_append_right (by simp; omega), List.getElem?_append_right (by simp; omega)]
    simp only [List.length_map, hl]
    cases junk[k - zs.length]? with
    | none => rfl
    | some y => rw [Option.map_some, if_neg (by omega)]
theorem sortW_near {W : World} {g : Nat} {zs zs' : List α} {junk : List Value} {ty : TypeId} (h : W.heap[g]? = some (.cells (zs.map enc ++ junk).toArray ty (0, 0))) (hl : zs'.length = zs.length) (n : Nat) (os : Array Obj) :
    Near W (Go.Proofs.sortWorld enc W g 0 n zs'.toArray os) g g (.cells (zs'.map enc ++ junk).toArray ty (0, 0)) := by
  have hlt : g < W.heap.size := (Array.getElem?_eq_some_iff.1 h).1
  have hs : ∀ x, x < W.heap.size → (Go.Proofs.sortWorld enc W g 0 n zs'.toArray os).heap[x]? = (W.heap.modify g (Sort.onCells (Sort.putCells enc 0 zs'.toArray)))[x]? := fun x hx => by
    refine (Sort.heap_grow_old _ os ?_).trans rfl
    show x < (W.heap.modify g _).size
    rw [Array.size_modify]; exact hx
  refine ⟨rfl, rfl, rfl, ?_, ?_, .inl rfl, fun x hx hlt' => ?_⟩
  · show W.heap.size ≤ (W.heap.modify g _ ++ os).size
    rw [Array.size_append, Array.size_modify]; omega
  · rw [hs g hlt, Array.getElem?_modify, if_pos rfl, h, Option.map_some]
    show some (Obj.cells (Sort.putCells _ _ _ _) _ _) = _
    rw [putCells_en enc hl]
  · rw [hs x hlt', Array.getElem?_modify, if_neg (fun e => hx e.symm)]
end
theorem below_grown {W W' : World} (h : Below W.heap.size W W') (hd : W.drawn ≤ W'.drawn) : ∃ q os, W' = Sort.grow (W.drewN q) os := by
  refine ⟨W'.drawn - W.drawn, W'.heap.extract W.heap.size, ?_⟩
  have e1 : W'.heap = W.heap ++ W'.heap.extract W.heap.size := by
    apply Array.ext_getElem?
    intro k
    by_cases hk : k < W.heap.size
    · rw [h.block k hk, Array.getElem?_append_left hk]
    · rw [Array.getElem?_append_right (by omega), Array.getElem?_extract]
      have hs := h.size
      by_cases hk' : k < W'.heap.size
      · rw [if_pos (by omega), show W.heap.size + (k - W.heap.size) = k by omega]
      · rw [if_neg (by omega), Array.getElem?_eq_none (by omega)]
  have e2 : W'.drawn = W.drawn + (W'.drawn - W.drawn) := by omega
  have e3 := h.os
  have e4 := h.tape
  have e5 := h.output
  unfold Sort.grow World.drewN
  cases W
  cases W'
  simp only [World.mk.injEq]
  exact ⟨e1, e4, e2, e3, e5⟩
/-- What is sorted: numbers of a row. -/
abbrev InL (l : List Rat) : Type := { q : Rat // q ∈ l }
abbrev encL {l : List Rat} (q : InL l) : Value := str (numS q.1)
abbrev cfL {l : List Rat} (p q : InL l) : Int := cmpQ p.1 q.1
theorem ltL {l : List Rat} (p q : InL l) : Go.Proofs.ltOf cfL p q = decide (p.1 < q.1) := by
  unfold Go.Proofs.ltOf
  exact cmpQ_lt0 p.1 q.1
theorem swoL (l : List Rat) : Sort.SWO (Go.Proofs.ltOf (cfL (l := l))) where
  irrefl x := by rw [ltL]; exact decide_eq_false Rat.lt_irrefl
  trans x y z h1 h2 := by
    rw [ltL] at *
    exact decide_eq_true (Rat.not_le.1 fun h => Rat.not_lt.2 (Rat.le_trans h (Rat.le_of_lt (of_decide_eq_true h1))) (of_decide_eq_true h2))
  ntrans x y z h1 h2 := by
    rw [ltL] at *
    have h1 := Rat.not_lt.1 (of_decide_eq_false h1)
    have h2 := Rat.not_lt.1 (of_decide_eq_false h2)
    exact decide_eq_false (Rat.not_lt.2 (Rat.le_trans h2 h1))
theorem totL {l : List Rat} (x y : InL l) (h1 : Go.Proofs.ltOf cfL x y = false) (h2 : Go.Proofs.ltOf cfL y x = false) : x = y := by
  rw [ltL] at *
  exact Subtype.ext (Rat.le_antisymm (Rat.not_lt.1 (of_decide_eq_false h2)) (Rat.not_lt.1 (of_decide_eq_false h1)))
theorem map_encL {l : List Rat} (s : List (InL l)) : s.map encL = nS (s.map Subtype.val) := by rw [nS, List.map_map]; rfl
theorem sortL (l : List Rat) : ((l.attach.mergeSort fun x y => !(Go.Proofs.ltOf cfL) y x).map Subtype.val) = sortQ l := by
  refine sortQ_of ?_ ?_
  · have h := (List.mergeSort_perm l.attach fun x y => !(Go.Proofs.ltOf cfL) y x).map Subtype.val
    rwa [List.attach_map_subtype_val] at h
  · refine List.pairwise_map.2 ((List.pairwise_mergeSort (le := fun x y => !(Go.Proofs.ltOf cfL) y x) ?_ ?_ l.attach).imp ?_)
    · intro a b c h1 h2
      simp only [Bool.not_eq_true', ltL, decide_eq_false_iff_not, Rat.not_lt] at h1 h2 ⊢
      exact Rat.le_trans h1 h2
    · intro a b
      simp only [Bool.or_eq_true, Bool.not_eq_true', ltL, decide_eq_false_iff_not, Rat.not_lt]
      exact Rat.le_total
    · intro a b h
      simp only [Bool.not_eq_true', ltL, decide_eq_false_iff_not, Rat.not_lt] at h
      exact h
set_option maxHeartbeats 4000000 in
theorem sortG_gives (cf : Nat) (hcf : CmpOK cf) (W : World) (g cap : Nat) (l : List Rat) (junk : List Value) (hn : l.length < 4611686018427387904) (hg : W.heap[g]? = some (.cells (nS l ++ junk).toArray 27 (0, 0)))
    (hf : ∀ W', Keep W W' g → MaxP W' ∧ TabP W') (hz : ∀ p ∈ l, ∀ q ∈ l, Sz2 p q) :
    Calls Tryz.prog 34 #[.slice (some ⟨g, 0, none⟩) l.length cap, .func (.func cf) #[] #[]] W fun e W' => ∃ x : Unit, e = .returned ((fun _ => .tuple #[]) x) ∧ True ∧ Near W W' g ((fun _ => g) x) ((fun _ => .cells (nS (sortQ l) ++ junk).toArray 27 (0, 0)) x) := by
  by_cases h12 : l.length ≤ 12
  · exact sortFn_gives cf hcf W g cap l junk h12 hg hf hz
  have hne : 0 < l.length := by omega
  haveI : Inhabited (InL l) := ⟨⟨l[0], List.getElem_mem hne⟩⟩
  have hgl : W.heap[g]? = some (.cells (l.attach.map encL ++ junk).toArray 27 (0, 0)) := by
    rw [map_encL, List.attach_map_subtype_val]; exact hg
  have hlt : g < W.heap.size := (Array.getElem?_eq_some_iff.1 hg).1
  have hsz : l.attach.toArray.size = l.length := by simp
  have hlays : Go.Proofs.CmpLays1 Tryz.prog cf #[] encL cfL g 0 l.attach.toArray.size W := fun m os dk hdk x y => by
    have hnear := sortW_near encL (zs' := dk.toList) hgl (by rw [Array.length_toList, hdk, hsz, List.length_attach]) m os
    have hk : Keep W (Go.Proofs.sortWorld encL W g 0 m dk os) g := ⟨hnear.os, hnear.tape, hnear.output, hnear.size, hnear.old⟩
    obtain ⟨hv, ht⟩ := hf _ hk
    have hc := Mono.calls_drawn (hcf.2 x.1 y.1 _ (hz x.1 x.2 y.1 y.2) hv ht).out
    refine hc.mono ?_
    rintro e W' ⟨⟨_, rfl, _, hb, _⟩, hd⟩
    exact ⟨rfl, below_grown hb (hd _ rfl)⟩
  have h := Go.Proofs.Any.slices_SortFunc_total (P := Tryz.prog) (ρ := Tryz.laysF6_ren) Tryz.laysF6 (α := InL l) encL (fun _ => rfl) cfL (swoL l) cf #[] g 0 cap l.attach.toArray W (fun args W => entersB_run hcf.1 args W) hlays (en_holds encL hgl) hlt (by rw [hsz]; exact hn) totL
  rw [hsz] at h
  refine h.mono ?_
  rintro e W' ⟨rfl, n, os, rfl⟩
  refine ⟨(), rfl, trivial, ?_⟩
  have h2 := sortW_near encL (zs' := l.attach.mergeSort fun x y => !(Go.Proofs.ltOf cfL) y x) hgl (List.length_mergeSort _) n os
  rw [map_encL, sortL] at h2
  exact h2
section
variable {r : Option Nat} {n : Nat} {W0 : World} {N : Nat} {D : List Deferred} {ops : List Oper} {Q : Exit → Act → World → Prop} {o : Oper} {rest : List Oper} {env : Env} {bxs : List Bx}
/-- slices.SortFunc of numbers that were appended (none of them, perhaps). -/
theorem wl_sortG (k : Nat) (cf : Nat) (hcf : CmpOK cf) (hv0 : MaxP W0) (ht0 : TabP W0) {c : Call} {f : Operand} {d : Nat} {V : Vec} {l : List Rat} {len : Nat}
    (hg : guardE ops N env o = some true) (hd : o.dst = some d) (ho : o.op = .call c) (hc : c.callee = .value f) (hf : evO N env f = some (.func (.func 34) #[] #[])) (ha : evArgs (evO N env) c.args.toList = some [V.val len, .func (.func cf) #[] #[]])
    (hk : nth bxs k = some (V.bx 27 (nS l))) (hlen : len = l.length) (hV : V.OK 1 len (nS l)) (hn : l.length < 4611686018427387904) (hz : ∀ p ∈ l, ∀ q ∈ l, Sz2 p q)
    (h : WL r n Tryz.prog N D ops Q rest ((d, .tuple #[]) :: env) (Hp W0 (bxs.set k (V.bx 27 (nS (sortQ l)))))) : WL r n Tryz.prog N D ops Q (o :: rest) env (Hp W0 bxs) := by
  subst hlen
  obtain ⟨p, cap, junk⟩ := V
  cases p with
  | none =>
    have hz0 := hV.nil rfl
    have e : bxs.set k ((⟨none, cap, junk⟩ : Vec).bx 27 (nS (sortQ l))) = bxs := by
      have h1 : bxs[k]? = some ((⟨none, cap, junk⟩ : Vec).bx 27 (nS l)) := by rw [← nth_eq]; exact hk
      exact set_same_get h1
    rw [e] at h
    refine wl_call1 (capt := []) hg hd ho hc hf ha (by kernel_rfl) (fun W _ => ?_) h
    exact sort0_gives cf W none 0
  | some g =>
    have hk' : bxs[k]? = some (rowQ g l junk) := by rw [← nth_eq]; exact hk
    refine wl_callN (X := Unit) (val := fun _ => .tuple #[]) (Φ := fun _ => True) (capt := []) k (B := rowQ g l junk) (L1 := []) (L2 := []) (b := g) (ob := .cells (nS l ++ junk).toArray 27 (0, 0)) (fun _ => rowQ g (sortQ l) junk) (g' := fun _ => g) (o' := fun _ => .cells (nS (sortQ l) ++ junk).toArray 27 (0, 0))
      hg hd ho hc hf ha (by kernel_rfl) hk rfl (fun _ _ => rfl) (fun W hp => ?_) (fun _ _ => h)
    have hcell := hp.own.cell k _ hk' (g, .cells (nS l ++ junk).toArray 27 (0, 0)) (List.mem_cons_self ..)
    exact sortG_gives cf hcf W g cap l junk hn hcell.1 (fun W' hK => ⟨hv0.below (hK.below hp.below hcell.2), ht0.below (hK.below hp.below hcell.2)⟩) hz
end
end Go.Proofs.YtddadjbflgdomaaGreatDoor
namespace Go.Proofs.YtddadjbflgdomaaGreatDoor
open Go Go.RowKit Go.Am Go.Lib
set_option maxRecDepth 10000
-- BOXES 6
/-- What the places of a beam want, however many. -/
structure OfL (b : BmP) : Prop where
  len : 4 + b.fs.length + 2 * b.ss.length ≤ 10000
  sh : ∀ p ∈ b.chg, ShZ b p ∧ szQ (b.shear p) 90
  ch : ∀ p ∈ chS b b.ss.length, szQ p 40
  ss : ∀ s ∈ b.ss, szQ s.1 40 ∧ szQ s.2.1 40 ∧ szQ s.2.2 40
  ld : ∀ p q j, szQ (ldAt p q (b.ss.take j)) 40
set_option maxHeartbeats 32000000 in
theorem ofL_gives (b : BmP) (hz : OfL b) (p q : Option Addr) (m n : Nat) (W : World) (hM : BmM W b p q) :
    CallsR Tryz.prog 32 #[bmV b p m q n] W (fun V : PlV b => V.val) (fun _ => True) (fun V => [V.bc, V.bz]) := by
  have hv := hM.v
  have ht := hM.t
  have hlen := hz.len
  refine calls_enter (args := [bmV b p m q n]) Tryz.func32 rfl rfl rfl ?_
  refine zA ?_
  refine zB ?_
  (refine wl_box rfl rfl rfl rfl ?_; intro)
  (refine wl_allocZ Tryz.hZ rfl rfl rfl rfl ?_; intro)
  refine wl_nil ?_
  rename_i b1 b2
  refine zE ?_
  refine zA ?_
  refine zB ?_
  (refine wl_allocZ Tryz.hZ rfl rfl rfl rfl ?_; intro)
  refine wl_nil ?_
  rename_i b3
  refine zE ?_
  refine zA ?_
  refine zB ?_
  refine wl_pure Tryz.hT rfl rfl rfl ?_
  refine wl_loadBx 0 Tryz.hT rfl rfl rfl rfl rfl rfl rfl rfl ?_
  refine wl_pure Tryz.hT rfl rfl rfl ?_
  refine wl_loadBx 0 Tryz.hT rfl rfl rfl rfl rfl rfl rfl rfl ?_
  refine wl_pure Tryz.hT rfl rfl rfl ?_
  refine wl_loadBx 0 Tryz.hT rfl rfl rfl rfl rfl rfl rfl rfl ?_
  (refine wl_buildRowZ Tryz.hZ Tryz.hT rfl rfl rfl rfl rfl rfl rfl rfl rfl rfl rfl ?_; intro)
  refine wl_pure Tryz.hT rfl rfl rfl ?_
  refine wl_storeBx 2 Tryz.hT rfl rfl rfl rfl rfl rfl rfl rfl rfl rfl rfl ?_
  refine wl_nil ?_
  rename_i bS
  refine ne_bx (bxs' := [bmB b1 b p m q n, plB b2 (.slice none 0 0) (.slice none 0 0), plB b3 ((⟨some bS, 4, []⟩ : Vec).val 4) (.slice none 0 0), (⟨some bS, 4, []⟩ : Vec).bx 27 (nS (chF b 0))]) (by
    show _ = [bmB b1 b p m q n, plB b2 (.slice none 0 0) (.slice none 0 0), plB b3 (.slice (some ⟨bS, 0, none⟩) 4 4) (.slice none 0 0), (⟨bS, 27, [str (numS 0), str (numS b.len), str (numS b.l), str (numS b.r)] ++ [], true, none⟩ : Bx)]
    rw [numS_zero]; rfl) ?_
  refine zE ?_
  iterate 2 refine zA ?_
  refine zB ?_
  refine wl_pure Tryz.hT rfl rfl rfl ?_
  refine wl_loadBx 0 Tryz.hT rfl rfl rfl rfl rfl rfl rfl rfl ?_
  iterate 2 refine wl_pure Tryz.hT rfl rfl rfl ?_
  refine wl_nil ?_
  refine zE ?_
  refine zH ?_
  refine wc_loop (X := Nat × Vec) (fun s => [(1, selfP b1), (2, selfP b2), (3, selfP b3), (24, .slice p b.fs.length m), (25, .int .i64 (b.fs.length : Nat)), (26, .int .i64 (s.1 : Nat))]) (fun s => [bmB b1 b p m q n, plB b2 (.slice none 0 0) (.slice none 0 0), plB b3 (s.2.val (4 + s.1)) (.slice none 0 0), s.2.bx 27 (nS (chF b s.1))])
    (fun s => s.1 ≤ b.fs.length ∧ s.2.OK 1 (4 + s.1) (nS (chF b s.1))) (fun s => b.fs.length - s.1) (0, ⟨some bS, 4, []⟩) ⟨Nat.zero_le _, rfl, (fun h => by cases h), fun _ => ⟨Nat.le_refl _, by show 4 ≤ maxLen; decide, rfl⟩⟩ ⟨rfl, rfl, rfl, rfl, rfl, rfl, trivial⟩ [] rfl ?_
  rintro ⟨i, V⟩ ⟨hi, hV⟩
  have hi : i ≤ b.fs.length := hi
  have hV : V.OK 1 (4 + i) (nS (chF b i)) := hV
  refine zA ?_
  refine zB ?_
  refine wl_pure Tryz.hT rfl rfl rfl ?_
  by_cases hlt : i < b.fs.length
  · refine wl_upd 27 (.bool true) rfl (congrArg Value.bool (decide_eq_true (by omega))) ?_
    refine wl_nil ?_
    refine zE ?_
    refine zA ?_
    refine zR rfl ?_
    refine zI ?_
    refine zE ?_
    refine zA ?_
    refine zH ?_
    refine zA ?_
    refine zB ?_
    obtain ⟨f, hfe⟩ : ∃ f, f = b.fs[i] := ⟨_, rfl⟩
    have hsuc := chF_succ hlt
    rw [← hfe] at hsuc
    obtain ⟨g, off, hpe, hrow⟩ := hM.f.at_ hlt
    have hrow := hrow i hlt
    rw [← hfe] at hrow
    subst hpe
    refine wl_indexAddr Tryz.hT rfl rfl rfl rfl rfl rfl rfl (by omega) (by omega) ?_
    refine wl_load rfl rfl rfl rfl (fun W hp => RowAt.load 0 Tryz.hT rfl ((fun W1 hp => hrow.hp hp) W hp) rfl) ?_
    (refine wl_allocZ Tryz.hZ rfl rfl rfl rfl ?_; intro)
    refine wl_storeBx 4 Tryz.hT rfl rfl rfl rfl rfl rfl rfl rfl rfl rfl rfl ?_
    refine wl_nil ?_
    rename_i b5
    refine zE ?_
    refine zB ?_
    refine wl_pure Tryz.hT rfl rfl rfl ?_
    refine wl_loadBx 2 Tryz.hT rfl rfl rfl rfl rfl rfl rfl rfl ?_
    refine wl_pure Tryz.hT rfl rfl rfl ?_
    refine wl_loadBx 4 Tryz.hT rfl rfl rfl rfl rfl rfl rfl rfl ?_
    (refine wl_buildRowZ Tryz.hZ Tryz.hT rfl rfl rfl rfl rfl rfl rfl rfl rfl rfl rfl ?_; intro)
    refine wl_appendTo (V := V) (len := 4 + i) (xs := nS (chF b i)) 3 5 Tryz.vec66 (4 + (i + 1)) (nS (chF b (i + 1))) rfl rfl rfl rfl rfl rfl rfl rfl rfl rfl rfl hV rfl rfl rfl (by rw [hsuc, nS_app]; rfl) (by simp only [maxLen]; omega) (by omega) rfl ?_
    intro gV cV jV hV1
    refine wl_pure Tryz.hT rfl rfl rfl ?_
    refine wl_storeBx 2 Tryz.hT rfl rfl rfl rfl rfl rfl rfl rfl rfl rfl rfl ?_
    refine wl_nil ?_
    refine zN ?_
    refine zE ?_
    refine zB ?_
    refine wl_pure Tryz.hT rfl rfl rfl ?_
    refine wl_upd 37 (.int .i64 ((i + 1 : Nat) : Int)) rfl (congrArg (Value.int .i64) (w64_succ (by omega))) ?_
    refine wl_pure Tryz.hT rfl rfl rfl ?_
    refine wl_nil ?_
    exact ne_loop (i + 1, ⟨some gV, cV, jV⟩) ⟨hlt, hV1⟩ (by show b.fs.length - (i + 1) < b.fs.length - i; omega) ⟨rfl, rfl, rfl, rfl, rfl, rfl, trivial⟩ [_, _] rfl
  have e : i = b.fs.length := by omega
  subst e
  refine wl_upd 27 (.bool false) rfl (congrArg Value.bool (decide_eq_false (by omega))) ?_
  refine wl_nil ?_
  refine zE ?_
  refine zA ?_
  refine zS rfl ?_
  refine zJ ?_
  iterate 2 refine zK ?_
  refine zL ?_
  refine zE ?_
  iterate 2 refine zA ?_
  refine zB ?_
  refine wl_pure Tryz.hT rfl rfl rfl ?_
  refine wl_loadBx 0 Tryz.hT rfl rfl rfl rfl rfl rfl rfl rfl ?_
  iterate 2 refine wl_pure Tryz.hT rfl rfl rfl ?_
  refine wl_nil ?_
  refine zE ?_
  refine zH ?_
  refine wc_loop (X := Nat × Vec) (fun s => [(1, selfP b1), (2, selfP b2), (3, selfP b3), (39, .slice q b.ss.length n), (40, .int .i64 (b.ss.length : Nat)), (41, .int .i64 (s.1 : Nat))]) (fun s => [bmB b1 b p m q n, plB b2 (.slice none 0 0) (.slice none 0 0), plB b3 (s.2.val (4 + b.fs.length + 2 * s.1)) (.slice none 0 0), s.2.bx 27 (nS (chS b s.1))])
    (fun s => s.1 ≤ b.ss.length ∧ s.2.OK 1 (4 + b.fs.length + 2 * s.1) (nS (chS b s.1))) (fun s => b.ss.length - s.1) (0, V) ⟨Nat.zero_le _, by
      have e0 : chS b 0 = chF b b.fs.length := by unfold chS; simp
      rw [e0]; exact hV⟩ ⟨rfl, rfl, rfl, rfl, rfl, rfl, trivial⟩ [] (by
      have e0 : chS b 0 = chF b b.fs.length := by unfold chS; simp
      rw [e0]; rfl) ?_
  rintro ⟨j, U⟩ ⟨hj, hU⟩
  have hj : j ≤ b.ss.length := hj
  have hU : U.OK 1 (4 + b.fs.length + 2 * j) (nS (chS b j)) := hU
  refine zA ?_
  refine zB ?_
  refine wl_pure Tryz.hT rfl rfl rfl ?_
  by_cases hlt : j < b.ss.length
  · refine wl_upd 42 (.bool true) rfl (congrArg Value.bool (decide_eq_true (by omega))) ?_
    refine wl_nil ?_
    refine zE ?_
    refine zA ?_
    refine zR rfl ?_
    refine zI ?_
    refine zE ?_
    refine zA ?_
    refine zH ?_
    refine zA ?_
    refine zB ?_
    obtain ⟨f, hfe⟩ : ∃ f, f = b.ss[j] := ⟨_, rfl⟩
    have hsuc := chS_succ hlt
    rw [← hfe] at hsuc
    obtain ⟨g, off, hpe, hrow⟩ := hM.s.at_ hlt
    have hrow := hrow j hlt
    rw [← hfe] at hrow
    subst hpe
    refine wl_indexAddr Tryz.hT rfl rfl rfl rfl rfl rfl rfl (by omega) (by omega) ?_
    refine wl_load rfl rfl rfl rfl (fun W hp => RowAt.load 0 Tryz.hT rfl ((fun W1 hp => hrow.hp hp) W hp) rfl) ?_
    (refine wl_allocZ Tryz.hZ rfl rfl rfl rfl ?_; intro)
    refine wl_storeBx 4 Tryz.hT rfl rfl rfl rfl rfl rfl rfl rfl rfl rfl rfl ?_
    refine wl_nil ?_
    rename_i b7
    refine zE ?_
    refine zB ?_
    refine wl_pure Tryz.hT rfl rfl rfl ?_
    refine wl_loadBx 2 Tryz.hT rfl rfl rfl rfl rfl rfl rfl rfl ?_
    refine wl_pure Tryz.hT rfl rfl rfl ?_
    refine wl_loadBx 4 Tryz.hT rfl rfl rfl rfl rfl rfl rfl rfl ?_
    refine wl_pure Tryz.hT rfl rfl rfl ?_
    refine wl_loadBx 4 Tryz.hT rfl rfl rfl rfl rfl rfl rfl rfl ?_
    (refine wl_buildRowZ Tryz.hZ Tryz.hT rfl rfl rfl rfl rfl rfl rfl rfl rfl rfl rfl ?_; intro)
    refine wl_appendTo (V := U) (len := 4 + b.fs.length + 2 * j) (xs := nS (chS b j)) 3 5 Tryz.vec66 (4 + b.fs.length + 2 * (j + 1)) (nS (chS b (j + 1))) rfl rfl rfl rfl rfl rfl rfl rfl rfl rfl rfl hU rfl rfl rfl (by rw [hsuc, nS_app]; rfl) (by simp only [maxLen]; omega) (by omega) rfl ?_
    intro gV cV jV hV1
    refine wl_pure Tryz.hT rfl rfl rfl ?_
    refine wl_storeBx 2 Tryz.hT rfl rfl rfl rfl rfl rfl rfl rfl rfl rfl rfl ?_
    refine wl_nil ?_
    refine zN ?_
    refine zE ?_
    refine zB ?_
    refine wl_pure Tryz.hT rfl rfl rfl ?_
    refine wl_upd 54 (.int .i64 ((j + 1 : Nat) : Int)) rfl (congrArg (Value.int .i64) (w64_succ (by omega))) ?_
    refine wl_pure Tryz.hT rfl rfl rfl ?_
    refine wl_nil ?_
    exact ne_loop (j + 1, ⟨some gV, cV, jV⟩) ⟨hlt, hV1⟩ (by show b.ss.length - (j + 1) < b.ss.length - j; omega) ⟨rfl, rfl, rfl, rfl, rfl, rfl, trivial⟩ [_, _] rfl
  have e : j = b.ss.length := by omega
  subst e
  refine wl_upd 42 (.bool false) rfl (congrArg Value.bool (decide_eq_false (by omega))) ?_
  refine wl_nil ?_
  refine zE ?_
  refine zA ?_
  refine zS rfl ?_
  refine zJ ?_
  iterate 2 refine zK ?_
  refine zL ?_
  refine zE ?_
  refine zA ?_
  refine zB ?_
  have hsl := sortQ_len (chS b b.ss.length)
  have hcl := chS_len b
  refine wl_pure Tryz.hT rfl rfl rfl ?_
  refine wl_loadBx 2 Tryz.hT rfl rfl rfl rfl rfl rfl rfl rfl ?_
  refine wl_sortG 3 35 bcmpOK hv ht (V := U) (l := chS b b.ss.length) (len := 4 + b.fs.length + 2 * b.ss.length) rfl rfl rfl rfl rfl rfl rfl hcl.symm hU (by omega) (fun x hx y hy => sz2 (hz.ch x hx) (hz.ch y hy) (by decide)) ?_
  refine wl_nil ?_
  refine zE ?_
  refine zA ?_
  refine zB ?_
  refine wl_pure Tryz.hT rfl rfl rfl ?_
  refine wl_loadBx 2 Tryz.hT rfl rfl rfl rfl rfl rfl rfl rfl ?_
  refine wl_compQ 3 (V := U) (l := sortQ (chS b b.ss.length)) (len := 4 + b.fs.length + 2 * b.ss.length) rfl rfl rfl rfl rfl rfl rfl (by rw [hsl, hcl]) ⟨by rw [nS_len, hsl, hcl, Nat.mul_one], hU.nil, fun h => by
    have h2 := hU.cap h
    refine ⟨h2.1, h2.2.1, ?_⟩
    have h3 := h2.2.2
    rw [nS_len] at h3 ⊢
    rw [hsl]
    exact h3⟩ (by omega) ?_
  intro V2 hV2
  rw [← chS_all] at hV2 ⊢
  have hcn := chg_ne b
  obtain ⟨pc, cap, junk⟩ := V2
  cases pc with
  | none => have := hV2.nil rfl; omega
  | some gC =>
  have hlc : b.chg.length ≤ 10000 := by
    have := compQ_len (sortQ (chS b b.ss.length))
    rw [← chS_all, hsl, hcl] at this; omega
  refine wl_pure Tryz.hT rfl rfl rfl ?_
  refine wl_storeBx 2 Tryz.hT rfl rfl rfl rfl rfl rfl rfl rfl rfl rfl rfl ?_
  refine wl_nil ?_
  refine zE ?_
  iterate 2 refine zA ?_
  refine zB ?_
  refine wl_pure Tryz.hT rfl rfl rfl ?_
  refine wl_nil ?_
  refine zE ?_
  refine zH ?_
  refine wc_newGone ?_
  refine wc_loop (X := Nat × Vec) (fun s => [(1, selfP b1), (2, selfP b2), (3, selfP b3), (8, .int .i64 (s.1 : Nat))]) (fun s => [bmB b1 b p m q n, plB b2 (.slice none 0 0) (.slice none 0 0), plB b3 (.slice (some ⟨gC, 0, none⟩) b.chg.length cap) (s.2.val (zsT b s.1).length), ⟨gC, 27, nS b.chg ++ junk, true, none⟩, s.2.bx 27 (nS (zsT b s.1))])
    (fun s => s.1 < b.chg.length ∧ s.2.OK 1 (zsT b s.1).length (nS (zsT b s.1))) (fun s => b.chg.length - s.1) (0, Vec.empty) (by
      have e0 : zsT b 0 = [] := by
        unfold zsT
        cases h : b.chg with
        | nil => rfl
        | cons x l => rfl
      rw [e0]; exact ⟨hcn, Vec.OK.empty 1⟩) ⟨rfl, rfl, rfl, rfl, trivial⟩ [] (by
      have e0 : zsT b 0 = [] := by
        unfold zsT
        cases h : b.chg with
        | nil => rfl
        | cons x l => rfl
      rw [e0]; rfl) ?_
  rintro ⟨i, Z⟩ ⟨hi, hZ⟩
  have hi : i < b.chg.length := hi
  have hZ : Z.OK 1 (zsT b i).length (nS (zsT b i)) := hZ
  iterate 2 refine zA ?_
  refine zB ?_
  iterate 2 refine wl_pure Tryz.hT rfl rfl rfl ?_
  refine wl_upd 63 (.int .i64 ((i + 1 : Nat) : Int)) rfl (congrArg (Value.int .i64) (w64_succ (by omega))) ?_
  refine wl_pure Tryz.hT rfl rfl rfl ?_
  refine wl_loadBx 2 Tryz.hT rfl rfl rfl rfl rfl rfl rfl rfl ?_
  iterate 2 refine wl_pure Tryz.hT rfl rfl rfl ?_
  by_cases hlt : i + 1 < b.chg.length
  rotate_left
  · have e : b.chg.take (i + 1) = b.chg := List.take_of_length_le (by omega)
    have ez : zsT b i = b.zeros b.chg := by unfold zsT; rw [e]
    refine wl_upd 67 (.bool false) rfl (congrArg Value.bool (decide_eq_false (by omega))) ?_
    refine wl_nil ?_
    rw [ez] at hZ
    refine ne_bx (bxs' := [bmB b1 b p m q n, plB b2 (.slice none 0 0) (.slice none 0 0), plB b3 (.slice (some ⟨gC, 0, none⟩) b.chg.length cap) (.slice (vAdr Z) (b.zeros b.chg).length (vCap Z)), ⟨gC, 27, nS b.chg ++ junk, true, none⟩, Z.bx 27 (nS (b.zeros b.chg))]) (by rw [← vec_val hZ, ← ez]) ?_
    refine zE ?_
    refine zS rfl ?_
    refine zJ ?_
    iterate 2 refine zK ?_
    refine zL ?_
    refine zE ?_
    refine zA ?_
    refine zB ?_
    refine wl_loadBx 2 Tryz.hT rfl rfl rfl rfl rfl rfl rfl rfl ?_
    refine wl_storeBx 1 Tryz.hT rfl rfl rfl rfl rfl rfl rfl rfl rfl rfl rfl ?_
    refine wl_nil ?_
    refine zE ?_
    refine zO ?_
    exact ne_ret1 Tryz.hT rfl (.cell 1 rfl rfl rfl rfl rfl) (⟨gC, cap, junk, Z, hV2, hZ⟩ : PlV b) rfl trivial fun W1 hp => NewBx.of_hp (hp.pick (l := [⟨gC, 27, nS b.chg ++ junk, true, none⟩, Z.bx 27 (nS (b.zeros b.chg))]) [3, 4] (by decide) rfl)
  refine wl_upd 67 (.bool true) rfl (congrArg Value.bool (decide_eq_true (by omega))) ?_
  refine wl_nil ?_
  refine zE ?_
  refine zR rfl ?_
  refine zI ?_
  refine zE ?_
  refine zA ?_
  refine zH ?_
  refine zA ?_
  refine zT Tryz.mixed (by kernel_rfl) ?_
  obtain ⟨x, hx⟩ : ∃ x, x = b.chg[i] := ⟨_, rfl⟩
  obtain ⟨y, hy⟩ : ∃ y, y = b.chg[i + 1] := ⟨_, rfl⟩
  have hxm : x ∈ b.chg := hx ▸ List.getElem_mem _
  have hym : y ∈ b.chg := hy ▸ List.getElem_mem _
  have zx := hz.ch x (mem_chS hxm)
  have zy := hz.ch y (mem_chS hym)
  obtain ⟨hsh, hss⟩ := hz.sh x hxm
  have hsuc := zsT_succ hlt
  rw [← hx, ← hy] at hsuc
  refine wq_pure Tryz.hT rfl rfl rfl ?_
  refine wq_loadBx 2 Tryz.hT rfl rfl rfl rfl rfl rfl rfl rfl ?_
  refine wq_pure Tryz.hT rfl rfl rfl ?_
  refine wq_indexAddr Tryz.hT rfl rfl rfl rfl rfl rfl rfl (by omega) (by omega) ?_
  refine wq_load rfl rfl rfl rfl (fun W hp => RowAt.load 0 Tryz.hT rfl ((fun W1 hp => show RowAt W1 gC (0 + i * 1) [str (numS x)] by rw [hx]; exact nS_at hp 3 rfl hi) W hp) rfl) ?_
  refine wq_pure Tryz.hT rfl rfl rfl ?_
  refine wq_loadBx 2 Tryz.hT rfl rfl rfl rfl rfl rfl rfl rfl ?_
  iterate 2 refine wq_pure Tryz.hT rfl rfl rfl ?_
  refine wq_upd 78 (.int .i64 ((i + 1 : Nat) : Int)) rfl (congrArg (Value.int .i64) (w64_succ (by omega))) ?_
  refine wq_indexAddr Tryz.hT rfl rfl rfl rfl rfl rfl rfl (by omega) (by omega) ?_
  refine wq_load rfl rfl rfl rfl (fun W hp => RowAt.load 0 Tryz.hT rfl ((fun W1 hp => show RowAt W1 gC (0 + (i + 1) * 1) [str (numS y)] by rw [hy]; exact nS_at hp 3 rfl hlt) W hp) rfl) ?_
  iterate 2 refine wq_pure Tryz.hT rfl rfl rfl ?_
  refine wq_nil ?_
  refine wl_nil ?_
  refine zE ?_
  refine zA ?_
  refine zB ?_
  refine wl_pure Tryz.hT rfl rfl rfl ?_
  refine wl_nil ?_
  refine zE ?_
  iterate 2 refine zA ?_
  refine zB ?_
  refine wl_pure Tryz.hT rfl rfl rfl ?_
  refine wl_loadBx 0 Tryz.hT rfl rfl rfl rfl rfl rfl rfl rfl ?_
  iterate 2 refine wl_pure Tryz.hT rfl rfl rfl ?_
  refine wl_nil ?_
  refine zE ?_
  refine zH ?_
  refine wc_loop (X := Nat) (fun j => [(1, selfP b1), (2, selfP b2), (3, selfP b3), (8, .int .i64 (i : Nat)), (9, str (numS x)), (10, str (numS y)), (11, str (numS (ldAt x y (b.ss.take j)))), (82, .slice q b.ss.length n), (83, .int .i64 (b.ss.length : Nat)), (84, .int .i64 (j : Nat))]) (fun _ => [bmB b1 b p m q n, plB b2 (.slice none 0 0) (.slice none 0 0), plB b3 (.slice (some ⟨gC, 0, none⟩) b.chg.length cap) (Z.val (zsT b i).length), ⟨gC, 27, nS b.chg ++ junk, true, none⟩, Z.bx 27 (nS (zsT b i))])
    (fun j => j ≤ b.ss.length) (fun j => b.ss.length - j) 0 (Nat.zero_le _) ⟨rfl, rfl, rfl, rfl, rfl, rfl, by rw [show ldAt x y (b.ss.take 0) = 0 by rw [List.take_zero]; rfl, numS_zero]; rfl, rfl, rfl, rfl, trivial⟩ [] rfl ?_
  intro j hj
  have hj : j ≤ b.ss.length := hj
  refine zA ?_
  refine zB ?_
  refine wl_pure Tryz.hT rfl rfl rfl ?_
  by_cases hjl : j < b.ss.length
  · refine wl_upd 85 (.bool true) rfl (congrArg Value.bool (decide_eq_true (by omega))) ?_
    refine wl_nil ?_
    refine zE ?_
    refine zA ?_
    refine zR rfl ?_
    refine zI ?_
    refine zE ?_
    refine zA ?_
    refine zH ?_
    refine zA ?_
    refine zB ?_
    obtain ⟨f, hfe⟩ : ∃ f, f = b.ss[j] := ⟨_, rfl⟩
    have hls := ldAt_succ x y hjl
    rw [← hfe] at hls
    obtain ⟨z1, z2, z3⟩ := hz.ss f (hfe ▸ List.getElem_mem hjl)
    have zl := hz.ld x y j
    obtain ⟨g, off, hpe, hrow⟩ := hM.s.at_ hjl
    have hrow := hrow j hjl
    rw [← hfe] at hrow
    subst hpe
    refine wl_indexAddr Tryz.hT rfl rfl rfl rfl rfl rfl rfl (by omega) (by omega) ?_
    refine wl_load rfl rfl rfl rfl (fun W hp => RowAt.load 0 Tryz.hT rfl ((fun W1 hp => hrow.hp hp) W hp) rfl) ?_
    (refine wl_allocZ Tryz.hZ rfl rfl rfl rfl ?_; intro)
    refine wl_storeBx 5 Tryz.hT rfl rfl rfl rfl rfl rfl rfl rfl rfl rfl rfl ?_
    refine wl_nil ?_
    rename_i b13
    refine zE ?_
    refine zA ?_
    refine zB ?_
    refine wl_pure Tryz.hT rfl rfl rfl ?_
    refine wl_loadBx 5 Tryz.hT rfl rfl rfl rfl rfl rfl rfl rfl ?_
    refine wl_pure Tryz.hT rfl rfl rfl ?_
    refine wl_call1 rfl rfl rfl rfl rfl rfl (by kernel_rfl) (fun W1 hp => bcompare_gives f.1 x (sz2 z1 zx (by decide)) W1 (hv.hp hp) (ht.hp hp)) ?_
    refine wl_pure Tryz.hT rfl rfl rfl ?_
    refine wl_upd 92 (.bool (decide (f.1 ≤ x))) rfl (congrArg Value.bool (cmpQ_le0 f.1 x)) ?_
    by_cases c1 : f.1 ≤ x
    · refine wl_upd 92 (.bool true) rfl (congrArg Value.bool (decide_eq_true c1)) ?_
      iterate 2 refine wl_pure Tryz.hT rfl rfl rfl ?_
      refine wl_loadBx 5 Tryz.hT rfl rfl rfl rfl rfl rfl rfl rfl ?_
      refine wl_pure Tryz.hT rfl rfl rfl ?_
      refine wl_call1 rfl rfl rfl rfl rfl rfl (by kernel_rfl) (fun W1 hp => bcompare_gives f.2.1 y (sz2 z2 zy (by decide)) W1 (hv.hp hp) (ht.hp hp)) ?_
      refine wl_pure Tryz.hT rfl rfl rfl ?_
      refine wl_upd 98 (.bool (decide (y ≤ f.2.1))) rfl (congrArg Value.bool (cmpQ_ge0 f.2.1 y)) ?_
      refine wl_pure Tryz.hT rfl rfl rfl ?_
      refine wl_nil ?_
      refine zE ?_
      refine wc_cond rfl (fun h => ?_) (fun h => ?_)
      · have c2 : y ≤ f.2.1 := of_decide_eq_true h
        clear h
        rw [if_pos ⟨c1, c2⟩] at hls
        refine zB ?_
        iterate 2 refine wl_pure Tryz.hT rfl rfl rfl ?_
        refine wl_loadBx 5 Tryz.hT rfl rfl rfl rfl rfl rfl rfl rfl ?_
        refine wl_call1 rfl rfl rfl rfl rfl rfl (by kernel_rfl) (fun W1 hp => badd_gives (ldAt x y (b.ss.take j)) f.2.2 (sz2 zl z3 (by decide)) W1 (hv.hp hp) (ht.hp hp)) ?_
        refine wl_pure Tryz.hT rfl rfl rfl ?_
        refine wl_nil ?_
        refine zN ?_
        refine zE ?_
        refine zB ?_
        refine wl_pure Tryz.hT rfl rfl rfl ?_
        refine wl_upd 104 (.int .i64 ((j + 1 : Nat) : Int)) rfl (congrArg (Value.int .i64) (w64_succ (by omega))) ?_
        refine wl_pure Tryz.hT rfl rfl rfl ?_
        refine wl_nil ?_
        exact ne_loop (j + 1) hjl (by show b.ss.length - (j + 1) < b.ss.length - j; omega) ⟨rfl, rfl, rfl, rfl, rfl, rfl, by rw [hls]; rfl, rfl, rfl, rfl, trivial⟩ [_] rfl
      · have c2 : ¬ y ≤ f.2.1 := of_decide_eq_false h
        clear h
        rw [if_neg (fun h => c2 h.2), Rat.add_zero] at hls
        refine zI ?_
        refine zN ?_
        refine zE ?_
        refine zB ?_
        refine wl_pure Tryz.hT rfl rfl rfl ?_
        refine wl_upd 104 (.int .i64 ((j + 1 : Nat) : Int)) rfl (congrArg (Value.int .i64) (w64_succ (by omega))) ?_
        refine wl_pure Tryz.hT rfl rfl rfl ?_
        refine wl_nil ?_
        exact ne_loop (j + 1) hjl (by show b.ss.length - (j + 1) < b.ss.length - j; omega) ⟨rfl, rfl, rfl, rfl, rfl, rfl, by rw [hls]; rfl, rfl, rfl, rfl, trivial⟩ [_] rfl
    · refine wl_upd 92 (.bool false) rfl (congrArg Value.bool (decide_eq_false c1)) ?_
      rw [if_neg (fun h => c1 h.1), Rat.add_zero] at hls
      refine wl_pure Tryz.hT rfl rfl rfl ?_
      iterate 5 refine wl_skip rfl rfl ?_
      refine wl_pure Tryz.hT rfl rfl rfl ?_
      refine wl_nil ?_
      refine zE ?_
      refine zS rfl ?_
      refine zI ?_
      refine zN ?_
      refine zE ?_
      refine zB ?_
      refine wl_pure Tryz.hT rfl rfl rfl ?_
      refine wl_upd 104 (.int .i64 ((j + 1 : Nat) : Int)) rfl (congrArg (Value.int .i64) (w64_succ (by omega))) ?_
      refine wl_pure Tryz.hT rfl rfl rfl ?_
      refine wl_nil ?_
      exact ne_loop (j + 1) hjl (by show b.ss.length - (j + 1) < b.ss.length - j; omega) ⟨rfl, rfl, rfl, rfl, rfl, rfl, by rw [hls]; rfl, rfl, rfl, rfl, trivial⟩ [_] rfl
  have e : j = b.ss.length := by omega
  subst e
  obtain ⟨K, hK⟩ : ∃ K, K = ldAt x y b.ss := ⟨_, rfl⟩
  have hKe : ldAt x y (b.ss.take b.ss.length) = K := by rw [List.take_length, hK]
  have szK : szQ K 40 := hKe ▸ hz.ld x y b.ss.length
  refine wl_upd 85 (.bool false) rfl (congrArg Value.bool (decide_eq_false (by omega))) ?_
  refine wl_nil ?_
  refine zE ?_
  refine zA ?_
  refine zS rfl ?_
  refine zJ ?_
  iterate 2 refine zK ?_
  refine zL ?_
  refine zE ?_
  iterate 2 refine zA ?_
  refine zB ?_
  refine wl_pure Tryz.hT rfl rfl rfl ?_
  refine wl_upd 105 (str (numS K)) rfl (by rw [hKe]) ?_
  refine wl_pure Tryz.hT rfl rfl rfl ?_
  refine wl_upd 106 (.bool (decide (K = 0))) rfl (congrArg Value.bool (by rw [strEqB, numS_eq0])) ?_
  refine wl_nil ?_
  refine zE ?_
  refine wc_cond rfl (fun h => ?_) (fun h => ?_)
  · have hK0 : K = 0 := of_decide_eq_true h
    clear h
    have e1 : zsT b (i + 1) = zsT b i := by rw [hsuc, BmP.zero1, if_pos (by rw [← hK]; exact hK0), List.append_nil]
    refine zJ ?_
    refine zK ?_
    refine zL ?_
    refine zE ?_
    refine zB ?_
    iterate 2 refine wl_pure Tryz.hT rfl rfl rfl ?_
    refine wl_upd 69 (.int .i64 ((i + 1 : Nat) : Int)) rfl (congrArg (Value.int .i64) (w64_succ (by omega))) ?_
    refine wl_pure Tryz.hT rfl rfl rfl ?_
    refine wl_nil ?_
    exact ne_loop (i + 1, Z) ⟨hlt, by show Z.OK 1 (zsT b (i + 1)).length (nS (zsT b (i + 1))); rw [e1]; exact hZ⟩ (by show b.chg.length - (i + 1) < b.chg.length - i; omega) ⟨rfl, rfl, rfl, rfl, trivial⟩ [] (by show _ = [_, _, plB b3 _ (Z.val (zsT b (i + 1)).length), _, Z.bx 27 (nS (zsT b (i + 1)))] ++ []; rw [e1]; rfl)
  have hK0 : ¬ K = 0 := of_decide_eq_false h
  clear h
  refine zI ?_
  refine zE ?_
  refine zA ?_
  refine zB ?_
  obtain ⟨w, hw⟩ : ∃ w, w = x + b.shear x / K := ⟨_, rfl⟩
  have zd := hss.div szK (num_ne hK0)
  have zw : szQ w 180 := by rw [hw]; exact (zx.add zd).mono (by decide)
  have hz1 : b.zero1 x y = if x < w ∧ w < y then [w] else [] := by rw [BmP.zero1, ← hK, if_neg hK0, hw]
  refine wl_pure Tryz.hT rfl rfl rfl ?_
  refine wl_loadBx 0 Tryz.hT rfl rfl rfl rfl rfl rfl rfl rfl ?_
  refine wl_pure Tryz.hT rfl rfl rfl ?_
  refine wl_call1 rfl rfl rfl rfl rfl rfl (by kernel_rfl) (fun W1 hp => shear_gives b x p q m n W1 (hM.hp hp) hsh) ?_
  refine wl_pure Tryz.hT rfl rfl rfl ?_
  refine wl_upd 111 (str (numS K)) rfl (by rw [hKe]) ?_
  refine wl_call1 rfl rfl rfl rfl rfl rfl (by kernel_rfl) (fun W1 hp => bdiv_gives (b.shear x) K (sz2 hss szK (by decide)) (num_ne hK0) W1 (hv.hp hp) (ht.hp hp)) ?_
  refine wl_call1 rfl rfl rfl rfl rfl rfl (by kernel_rfl) (fun W1 hp => (badd_gives x (b.shear x / K) (sz2 zx zd (by decide)) W1 (hv.hp hp) (ht.hp hp)).cast (by rw [← hw])) ?_
  refine wl_pure Tryz.hT rfl rfl rfl ?_
  refine wl_nil ?_
  refine ne_then ?_
  try refine wc_seq ?_
  refine wc_cutS (X := Unit) (fun _ => [(1, selfP b1), (2, selfP b2), (3, selfP b3), (8, .int .i64 (i : Nat)), (14, str (numS w)), (123, .bool (decide (x < w ∧ w < y)))]) (fun _ => [bmB b1 b p m q n, plB b2 (.slice none 0 0) (.slice none 0 0), plB b3 (.slice (some ⟨gC, 0, none⟩) b.chg.length cap) (Z.val (zsT b i).length), ⟨gC, 27, nS b.chg ++ junk, true, none⟩, Z.bx 27 (nS (zsT b i))]) (fun _ => True) ?_ ?_
  · refine zB ?_
    iterate 2 refine wl_pure Tryz.hT rfl rfl rfl ?_
    refine wl_call1 rfl rfl rfl rfl rfl rfl (by kernel_rfl) (fun W1 hp => bcompare_gives w x (sz2 zw zx (by decide)) W1 (hv.hp hp) (ht.hp hp)) ?_
    refine wl_pure Tryz.hT rfl rfl rfl ?_
    refine wl_upd 117 (.bool (decide (x < w))) rfl (congrArg Value.bool (cmpQ_gt0 w x)) ?_
    by_cases c1 : x < w
    · refine wl_upd 117 (.bool true) rfl (congrArg Value.bool (decide_eq_true c1)) ?_
      iterate 3 refine wl_pure Tryz.hT rfl rfl rfl ?_
      refine wl_call1 rfl rfl rfl rfl rfl rfl (by kernel_rfl) (fun W1 hp => bcompare_gives w y (sz2 zw zy (by decide)) W1 (hv.hp hp) (ht.hp hp)) ?_
      refine wl_pure Tryz.hT rfl rfl rfl ?_
      refine wl_upd 122 (.bool (decide (w < y))) rfl (congrArg Value.bool (cmpQ_lt0 w y)) ?_
      refine wl_pure Tryz.hT rfl rfl rfl ?_
      refine wl_nil ?_
      exact ne_cut () trivial ⟨rfl, rfl, rfl, rfl, rfl, by rw [show decide (x < w ∧ w < y) = decide (w < y) by rw [decide_eq_decide]; exact ⟨fun h => h.2, fun h => ⟨c1, h⟩⟩]; rfl, trivial⟩ [] rfl
    · refine wl_upd 117 (.bool false) rfl (congrArg Value.bool (decide_eq_false c1)) ?_
      refine wl_pure Tryz.hT rfl rfl rfl ?_
      iterate 4 refine wl_skip rfl rfl ?_
      refine wl_pure Tryz.hT rfl rfl rfl ?_
      refine wl_nil ?_
      exact ne_cut () trivial ⟨rfl, rfl, rfl, rfl, rfl, by rw [show decide (x < w ∧ w < y) = false from decide_eq_false (fun h => c1 h.1)]; rfl, trivial⟩ [] rfl
  intro _ _
  refine wc_cond rfl (fun h => ?_) (fun h => ?_)
  · have hc : x < w ∧ w < y := of_decide_eq_true h
    clear h
    have e1 : zsT b (i + 1) = zsT b i ++ [w] := by rw [hsuc, hz1, if_pos hc]
    have hzl := zsT_len b i
    refine zB ?_
    refine wl_pure Tryz.hT rfl rfl rfl ?_
    refine wl_loadBx 2 Tryz.hT rfl rfl rfl rfl rfl rfl rfl rfl ?_
    refine wl_pure Tryz.hT rfl rfl rfl ?_
    (refine wl_buildRowZ Tryz.hZ Tryz.hT rfl rfl rfl rfl rfl rfl rfl rfl rfl rfl rfl ?_; intro)
    refine wl_appendTo (V := Z) (len := (zsT b i).length) (xs := nS (zsT b i)) 4 5 Tryz.vec66 (zsT b (i + 1)).length (nS (zsT b (i + 1))) rfl rfl rfl rfl rfl rfl rfl rfl rfl rfl rfl hZ rfl rfl (by rw [e1]; simp) (by rw [e1, nS_app]; rfl) (by simp only [maxLen]; rw [e1, List.length_append]; show _ + 1 ≤ _; omega) (by rw [e1, List.length_append]; show (_ + 1) * _ ≤ _; omega) rfl ?_
    intro gV cV jV hV1
    refine wl_pure Tryz.hT rfl rfl rfl ?_
    refine wl_storeBx 2 Tryz.hT rfl rfl rfl rfl rfl rfl rfl rfl rfl rfl rfl ?_
    refine wl_nil ?_
    refine zN ?_
    refine zE ?_
    refine zB ?_
    iterate 2 refine wl_pure Tryz.hT rfl rfl rfl ?_
    refine wl_upd 69 (.int .i64 ((i + 1 : Nat) : Int)) rfl (congrArg (Value.int .i64) (w64_succ (by omega))) ?_
    refine wl_pure Tryz.hT rfl rfl rfl ?_
    refine wl_nil ?_
    exact ne_loop (i + 1, ⟨some gV, cV, jV⟩) ⟨hlt, hV1⟩ (by show b.chg.length - (i + 1) < b.chg.length - i; omega) ⟨rfl, rfl, rfl, rfl, trivial⟩ [_] rfl
  · have hc : ¬ (x < w ∧ w < y) := of_decide_eq_false h
    clear h
    have e1 : zsT b (i + 1) = zsT b i := by rw [hsuc, hz1, if_neg hc, List.append_nil]
    refine zI ?_
    refine zN ?_
    refine zE ?_
    refine zB ?_
    iterate 2 refine wl_pure Tryz.hT rfl rfl rfl ?_
    refine wl_upd 69 (.int .i64 ((i + 1 : Nat) : Int)) rfl (congrArg (Value.int .i64) (w64_succ (by omega))) ?_
    refine wl_pure Tryz.hT rfl rfl rfl ?_
    refine wl_nil ?_
    exact ne_loop (i + 1, Z) ⟨hlt, by show Z.OK 1 (zsT b (i + 1)).length (nS (zsT b (i + 1))); rw [e1]; exact hZ⟩ (by show b.chg.length - (i + 1) < b.chg.length - i; omega) ⟨rfl, rfl, rfl, rfl, trivial⟩ [] (by show _ = [_, _, plB b3 _ (Z.val (zsT b (i + 1)).length), _, Z.bx 27 (nS (zsT b (i + 1)))] ++ []; rw [e1]; rfl)
end Go.Proofs.YtddadjbflgdomaaGreatDoor
namespace Go.Proofs.YtddadjbflgdomaaGreatDoor
open Go Go.RowKit Go.Am Go.Lib
set_option maxRecDepth 10000
-- BOXES 5
/-- What the greatest moment wants. -/
structure GrL (b : BmP) : Prop where
  rc : BmC b
  of : OfL b
  mo : ∀ x ∈ b.chg ++ b.zeros b.chg, MoZ b x ∧ szQ x 130 ∧ szQ (b.moment x) 140
  len : (b.chg ++ b.zeros b.chg).length ≤ 20000
set_option maxHeartbeats 16000000 in
theorem bGreatestL_gives (b : BmP) (hz : GrL b) (p q : Option Addr) (m n : Nat) (W : World) (hM : BmM W b p q) :
    CallsR Tryz.prog 11 #[bmV b p m q n] W (fun _ : Unit => .tuple #[str (numS (b.moment b.where_)), str (numS b.where_), .int .i64 0]) (fun _ => True) (fun _ => []) := by
  have hv := hM.v
  have ht := hM.t
  have hzl := zeros_len b b.chg
  have hll := hz.len
  have hne := chg_ne b
  rw [List.length_append] at hll
  refine calls_enter (args := [bmV b p m q n]) Tryz.func11 rfl rfl rfl ?_
  refine zA ?_
  refine zB ?_
  (refine wl_box rfl rfl rfl rfl ?_; intro)
  iterate 3 refine wl_pure Tryz.hT rfl rfl rfl ?_
  refine wl_nil ?_
  rename_i b1
  refine zE ?_
  iterate 2 refine zA ?_
  refine zB ?_
  refine wl_loadBx 0 Tryz.hT rfl rfl rfl rfl rfl rfl rfl rfl ?_
  refine wl_call1 rfl rfl rfl rfl rfl rfl (by kernel_rfl) (fun W hp => bcheck_gives b hz.rc p q m n W (hM.hp hp)) ?_
  refine wl_pure Tryz.hT rfl rfl rfl ?_
  refine wl_nil ?_
  refine zE ?_
  refine zS rfl ?_
  refine zI ?_
  refine zE ?_
  refine zA ?_
  refine zB ?_
  refine wl_loadBx 0 Tryz.hT rfl rfl rfl rfl rfl rfl rfl rfl ?_
  refine wl_call (X := PlV b) rfl rfl rfl rfl rfl rfl (by kernel_rfl) (fun W hp => ofL_gives b hz.of p q m n W (hM.hp hp)) ?_
  intro P _
  (refine wl_allocZ Tryz.hZ rfl rfl rfl rfl ?_; intro)
  refine wl_storeBx 3 Tryz.hT rfl rfl rfl rfl rfl rfl rfl rfl rfl rfl rfl ?_
  refine wl_nil ?_
  rename_i b5
  refine zE ?_
  refine zA ?_
  refine zB ?_
  refine wl_pure Tryz.hT rfl rfl rfl ?_
  refine wl_loadBx 3 Tryz.hT rfl rfl rfl rfl rfl rfl rfl rfl ?_
  refine wl_pure Tryz.hT rfl rfl rfl ?_
  refine wl_loadBx 3 Tryz.hT rfl rfl rfl rfl rfl rfl rfl rfl ?_
  (refine wl_buildRowZ Tryz.hZ Tryz.hT rfl rfl rfl rfl rfl rfl rfl rfl rfl rfl rfl ?_; intro)
  rename_i bL
  refine wl_call (X := Vec) rfl rfl rfl rfl rfl rfl (by kernel_rfl) (fun W1 hp => by
    have hrow : RowAt W1 bL 0 [.slice (some ⟨P.g, 0, none⟩) b.chg.length P.cap, .slice (vAdr P.z) (b.zeros b.chg).length (vCap P.z)] := by
      exact RowAt.of_bx hp 4 rfl rfl
    exact concatN_gives W1 bL 2 (some ⟨P.g, 0, none⟩) (vAdr P.z) b.chg.length (b.zeros b.chg).length P.cap (vCap P.z) (nS b.chg) (nS (b.zeros b.chg)) hrow
      (CellsP.of_vec P.hc 1 rfl hp) (CellsP.of_vec P.hz 2 rfl hp) (by rw [nS_len, Nat.mul_one]) (by rw [nS_len, Nat.mul_one]) (nS_one _) (nS_one _) (by omega) (by omega)) ?_
  intro A hA
  have hA : A.OK 1 (b.chg.length + (b.zeros b.chg).length) (nS b.chg ++ nS (b.zeros b.chg)) := hA
  rw [← nS_app] at hA ⊢
  refine wl_pure Tryz.hT rfl rfl rfl ?_
  refine wl_nil ?_
  have hsl := sortQ_len (b.chg ++ b.zeros b.chg)
  rw [List.length_append] at hsl
  refine zE ?_
  refine zA ?_
  refine zB ?_
  refine wl_pure Tryz.hT rfl rfl rfl ?_
  refine wl_sortG 5 35 bcmpOK hv ht (V := A) (l := b.chg ++ b.zeros b.chg) (len := b.chg.length + (b.zeros b.chg).length) rfl rfl rfl rfl rfl rfl rfl (by rw [List.length_append]) hA (by have := hz.len; omega) (fun x hx y hy => sz2 (hz.mo x hx).2.1 (hz.mo y hy).2.1 (by decide)) ?_
  refine wl_nil ?_
  obtain ⟨pa, cap, junk⟩ := A
  cases pa with
  | none => have := hA.nil rfl; omega
  | some gA =>
  obtain ⟨a, l, hal⟩ : ∃ a l, b.places = a :: l := by
    unfold BmP.places
    cases h : sortQ (b.chg ++ b.zeros b.chg) with
    | nil => rw [h] at hsl; simp at hsl; omega
    | cons a l => exact ⟨a, l, rfl⟩
  have hal' : sortQ (b.chg ++ b.zeros b.chg) = a :: l := hal
  have hwh : b.where_ = bestQ b.moment a l := by unfold BmP.where_; rw [hal]
  have hmem : ∀ x ∈ a :: l, x ∈ b.chg ++ b.zeros b.chg := fun x hx => by rw [← hal'] at hx; exact mem_sortQ.1 hx
  have hl : b.chg.length + (b.zeros b.chg).length = l.length + 1 := by rw [hal'] at hsl; simpa using hsl.symm
  obtain ⟨c1, c2, c3⟩ := hA.cap (by simp)
  have c1 : b.chg.length + (b.zeros b.chg).length ≤ cap := c1
  rw [hl] at c1
  refine ne_bx (bxs' := [bmB b1 b p m q n, P.bc, P.bz, plB b5 (.slice (some ⟨P.g, 0, none⟩) b.chg.length P.cap) ((.slice (vAdr P.z) (b.zeros b.chg).length (vCap P.z))), ⟨bL, 66, [.slice (some ⟨P.g, 0, none⟩) b.chg.length P.cap, (.slice (vAdr P.z) (b.zeros b.chg).length (vCap P.z))], true, none⟩, ⟨gA, 27, nS (a :: l) ++ junk, true, none⟩]) (by rw [← hal']; rfl) ?_
  have hma := hz.mo a (hmem a (List.mem_cons_self ..))
  refine zE ?_
  refine zA ?_
  refine zT Tryz.mixed (by kernel_rfl) ?_
  refine wq_loadBx 0 Tryz.hT rfl rfl rfl rfl rfl rfl rfl rfl ?_
  refine wq_pure Tryz.hT rfl rfl rfl ?_
  refine wq_upd 26 (.slice (some ⟨gA, 0, none⟩) (l.length + 1) cap) rfl (by rw [← hl]; rfl) ?_
  refine wq_indexAddr Tryz.hT rfl rfl rfl rfl rfl rfl rfl (by omega) (by omega) ?_
  refine wq_load rfl rfl rfl rfl (fun W hp => RowAt.load 0 Tryz.hT rfl ((fun W1 hp => show RowAt W1 gA (0 + 0 * 1) [str (numS a)] from nS_at (l := a :: l) (i := 0) hp 5 rfl (Nat.succ_pos _)) W hp) rfl) ?_
  refine wq_call1 rfl rfl rfl rfl rfl rfl (by kernel_rfl) (fun W1 hp => moment_gives b a p q m n W1 (hM.hp hp) hma.1) ?_
  refine wq_pure Tryz.hT rfl rfl rfl ?_
  refine wq_upd 30 (.slice (some ⟨gA, 0, none⟩) (l.length + 1) cap) rfl (by rw [← hl]; rfl) ?_
  refine wq_indexAddr Tryz.hT rfl rfl rfl rfl rfl rfl rfl (by omega) (by omega) ?_
  refine wq_load rfl rfl rfl rfl (fun W hp => RowAt.load 0 Tryz.hT rfl ((fun W1 hp => show RowAt W1 gA (0 + 0 * 1) [str (numS a)] from nS_at (l := a :: l) (i := 0) hp 5 rfl (Nat.succ_pos _)) W hp) rfl) ?_
  iterate 2 refine wq_pure Tryz.hT rfl rfl rfl ?_
  refine wq_nil ?_
  refine wl_nil ?_
  refine zE ?_
  iterate 2 refine zA ?_
  refine zB ?_
  refine wl_pure Tryz.hT rfl rfl rfl ?_
  refine wl_upd 33 (.slice (some ⟨gA, 0, none⟩) (l.length + 1) cap) rfl (by rw [← hl]; rfl) ?_
  refine wl_slice_l 1 Tryz.hT rfl rfl rfl rfl rfl rfl rfl rfl (by omega) c1 ?_
  obtain ⟨off, hoff⟩ : ∃ off, off = (if cap = 1 then 0 else 0 + 1 * 1) := ⟨_, rfl⟩
  refine wl_upd 34 (.slice (some ⟨gA, off, none⟩) l.length (cap - 1)) rfl (by rw [hoff]; rfl) ?_
  iterate 2 refine wl_pure Tryz.hT rfl rfl rfl ?_
  refine wl_nil ?_
  refine zE ?_
  refine zH ?_
  refine wc_loop (X := Nat) (fun i => [(1, selfP b1), (7, str (numS (b.moment (bestQ b.moment a (l.take i))))), (8, str (numS (bestQ b.moment a (l.take i)))), (34, .slice (some ⟨gA, off, none⟩) l.length (cap - 1)), (35, .int .i64 (l.length : Nat)), (36, .int .i64 (i : Nat))]) (fun _ => [bmB b1 b p m q n, P.bc, P.bz, plB b5 (.slice (some ⟨P.g, 0, none⟩) b.chg.length P.cap) (.slice (vAdr P.z) (b.zeros b.chg).length (vCap P.z)), ⟨bL, 66, [.slice (some ⟨P.g, 0, none⟩) b.chg.length P.cap, .slice (vAdr P.z) (b.zeros b.chg).length (vCap P.z)], true, none⟩, ⟨gA, 27, nS (a :: l) ++ junk, true, none⟩])
    (fun i => i ≤ l.length) (fun i => l.length - i) 0 (Nat.zero_le _) ⟨rfl, rfl, rfl, rfl, rfl, rfl, trivial⟩ [] rfl ?_
  intro i hi
  have hi : i ≤ l.length := hi
  refine zA ?_
  refine zB ?_
  refine wl_pure Tryz.hT rfl rfl rfl ?_
  by_cases hlt : i < l.length
  · refine wl_upd 37 (.bool true) rfl (congrArg Value.bool (decide_eq_true (by omega))) ?_
    refine wl_nil ?_
    refine zE ?_
    refine zA ?_
    refine zR rfl ?_
    refine zI ?_
    refine zE ?_
    refine zA ?_
    refine zH ?_
    refine zA ?_
    refine zB ?_
    have hoff1 : off = 1 * 1 := by rw [hoff, if_neg (by omega)]
    obtain ⟨x, hx⟩ : ∃ x, x = l[i] := ⟨_, rfl⟩
    obtain ⟨w, hw⟩ : ∃ w, w = bestQ b.moment a (l.take i) := ⟨_, rfl⟩
    have hsuc := bestQ_take (m := b.moment) (w := a) hlt
    rw [← hx, ← hw] at hsuc
    rw [← hw]
    have hmx := hz.mo x (hmem x (List.mem_cons_of_mem _ (hx ▸ List.getElem_mem hlt)))
    have hmw := hz.mo w (hmem w (by
      rw [hw]
      rcases List.mem_cons.1 (bestQ_mem b.moment (l.take i) a) with h | h
      · rw [h]; exact List.mem_cons_self ..
      · exact List.mem_cons_of_mem _ (List.mem_of_mem_take h)))
    refine wl_indexAddr Tryz.hT rfl rfl rfl rfl rfl rfl rfl (by omega) (by omega) ?_
    refine wl_load rfl rfl rfl rfl (fun W hp => RowAt.load 0 Tryz.hT rfl ((fun W1 hp => show RowAt W1 gA (off + i * 1) [str (numS x)] by rw [hx]; exact nS_tail hp 5 hoff1 rfl hlt) W hp) rfl) ?_
    refine wl_pure Tryz.hT rfl rfl rfl ?_
    refine wl_nil ?_
    refine zE ?_
    refine zA ?_
    refine zB ?_
    refine wl_loadBx 0 Tryz.hT rfl rfl rfl rfl rfl rfl rfl rfl ?_
    refine wl_pure Tryz.hT rfl rfl rfl ?_
    refine wl_call1 rfl rfl rfl rfl rfl rfl (by kernel_rfl) (fun W1 hp => moment_gives b x p q m n W1 (hM.hp hp) hmx.1) ?_
    refine wl_pure Tryz.hT rfl rfl rfl ?_
    refine wl_nil ?_
    refine zE ?_
    refine zA ?_
    refine zB ?_
    iterate 2 refine wl_pure Tryz.hT rfl rfl rfl ?_
    refine wl_call1 rfl rfl rfl rfl rfl rfl (by kernel_rfl) (fun W1 hp => bcompare_gives (b.moment x) (b.moment w) (sz2 hmx.2.2 hmw.2.2 (by decide)) W1 (hv.hp hp) (ht.hp hp)) ?_
    refine wl_pure Tryz.hT rfl rfl rfl ?_
    refine wl_upd 46 (.bool (decide (b.moment w < b.moment x))) rfl (congrArg Value.bool (cmpQ_gt0 (b.moment x) (b.moment w))) ?_
    refine wl_nil ?_
    refine zE ?_
    refine wc_cond rfl (fun h => ?_) (fun h => ?_)
    · have hc : b.moment w < b.moment x := of_decide_eq_true h
      clear h
      rw [if_pos hc] at hsuc
      refine zB ?_
      iterate 4 refine wl_pure Tryz.hT rfl rfl rfl ?_
      refine wl_nil ?_
      refine zN ?_
      refine zE ?_
      refine zB ?_
      refine wl_pure Tryz.hT rfl rfl rfl ?_
      refine wl_upd 49 (.int .i64 ((i + 1 : Nat) : Int)) rfl (congrArg (Value.int .i64) (w64_succ (by omega))) ?_
      refine wl_pure Tryz.hT rfl rfl rfl ?_
      refine wl_nil ?_
      exact ne_loop (i + 1) hlt (by show l.length - (i + 1) < l.length - i; omega) ⟨rfl, by rw [hsuc]; rfl, by rw [hsuc]; rfl, rfl, rfl, rfl, trivial⟩ [] rfl
    · have hc : ¬ b.moment w < b.moment x := of_decide_eq_false h
      clear h
      rw [if_neg hc] at hsuc
      refine zI ?_
      refine zN ?_
      refine zE ?_
      refine zB ?_
      refine wl_pure Tryz.hT rfl rfl rfl ?_
      refine wl_upd 49 (.int .i64 ((i + 1 : Nat) : Int)) rfl (congrArg (Value.int .i64) (w64_succ (by omega))) ?_
      refine wl_pure Tryz.hT rfl rfl rfl ?_
      refine wl_nil ?_
      exact ne_loop (i + 1) hlt (by show l.length - (i + 1) < l.length - i; omega) ⟨rfl, by rw [hsuc]; rfl, by rw [hsuc]; rfl, rfl, rfl, rfl, trivial⟩ [] rfl
  have e : i = l.length := by omega
  subst e
  rw [List.take_length, ← hwh]
  refine wl_upd 37 (.bool false) rfl (congrArg Value.bool (decide_eq_false (by omega))) ?_
  refine wl_nil ?_
  refine zE ?_
  refine zA ?_
  refine zS rfl ?_
  refine zJ ?_
  iterate 2 refine zK ?_
  refine zL ?_
  refine zE ?_
  refine zA ?_
  refine zB ?_
  iterate 5 refine wl_pure Tryz.hT rfl rfl rfl ?_
  refine wl_nil ?_
  refine zE ?_
  refine zO ?_
  exact ne_ret3 Tryz.hT rfl (.tmp rfl) (.tmp rfl) (.tmp rfl) () rfl trivial fun W _ => NewBx.nil _ _
end Go.Proofs.YtddadjbflgdomaaGreatDoor
namespace Go.Proofs.YtddadjbflgdomaaGreatDoor
open Go Go.RowKit Go.Am Go.Lib
set_option maxRecDepth 10000
-- BOXES 4
theorem sxt_eq (c : Int) : nrm c 16 = (c : Rat) / 16 := by rw [nrm_div c (by decide), Rat.divInt_eq_div]; rfl
theorem half_le_sxt {z c : Int} : nrm z 2 ≤ nrm c 16 ↔ 8 * z ≤ c := by
  rw [sxt_eq, half_eq]
  have h : ((8 * z : Int) : Rat) ≤ ((c : Int) : Rat) ↔ 8 * z ≤ c := Rat.intCast_le_intCast
  rw [← h, Rat.intCast_mul]
  have e : ((8 : Int) : Rat) = 8 := rfl
  rw [e]
  constructor <;> intro h <;> grind
end Go.Proofs.YtddadjbflgdomaaGreatDoor
namespace Go.Proofs.YtddadjbflgdomaaGreatDoor
open Go Go.RowKit Go.Am Go.Lib
set_option maxRecDepth 10000
-- BOXES 4
-- CODE2
theorem BmG.ofL {b : BmP} (h : BmG b) (hl : 4 + b.fs.length + 2 * b.ss.length ≤ 10000) : OfL b := by
  have hf := h.hf
  obtain ⟨_, _, _, _, zs⟩ := Hf_z hf
  have hn := hf.sn
  refine ⟨hl, fun p hp => ?_, fun p hp => ?_, zs, fun p q j => ?_⟩
  · obtain ⟨h1, h2⟩ := h.sh 1 (by decide) (by decide) (h.ch hp).half1
    exact ⟨h1, h2.mono (by decide)⟩
  · have hp' : p ∈ b.chg := by rw [chS_all]; exact (mem_compQ _).2 (mem_sortQ.2 hp)
    exact (h.ch hp').z40 (by decide) (by decide) (by decide)
  · have h1 := ldAt_in p q (b.ss.take j) fun s hs => hf.s3 s (List.mem_of_mem_take hs)
    have h2 : (b.ss.take j).length ≤ b.ss.length := by rw [List.length_take]; omega
    exact h1.z40 (by decide) (by decide) (Nat.lt_of_le_of_lt (show 128 * (b.ss.take j).length ≤ 1024 by omega) (by decide))
theorem BmG.anyD {b : BmP} (h : BmG b) {x : Rat} (hx : x ∈ b.chg ++ b.zeros b.chg) : ∃ D, 0 < D ∧ D ≤ dMax ∧ InD (2 * D) (100 * D) x := by
  rcases List.mem_append.1 hx with hx | hx
  · exact ⟨1, by decide, by decide, (h.ch hx).half1⟩
  · exact h.zeroD hx
theorem BmG.grL {b : BmP} (h : BmG b) (hl : 4 + b.fs.length + 2 * b.ss.length ≤ 10000) : GrL b := by
  have h1 := zeros_len b b.chg
  have h2 : b.chg.length ≤ 10000 := by
    have := compQ_len (sortQ (chS b b.ss.length))
    rw [← chS_all, sortQ_len, chS_len] at this; omega
  refine ⟨h.chk, h.ofL hl, fun x hx => ?_, by rw [List.length_append]; omega⟩
  obtain ⟨D, h0, hD, hi⟩ := h.anyD hx
  obtain ⟨a1, a2⟩ := h.mo D h0 hD hi
  exact ⟨a1, (fit_x h0 hD hi).mono (by decide), a2.mono (by decide)⟩
set_option maxHeartbeats 16000000 in
theorem greatest_gives (x : SmB) (a : Nat) (ha : a < 65536) (p q : Option Addr) (m n : Nat) (W : World) (hM : SmbM W x p q m n) (hv : MaxP W) (ht : TabP W) :
    CallsR Tryz.prog 3 #[smbV x p q m n, .int .u16 (a : Nat)] W (fun _ : Unit => .bool true) (fun _ => True) (fun _ => []) := by
  have hg := SmB.good hM.ok
  have hC := hg.chk
  have hn := x.n_rng
  have hL := hg.lies
  have ba := hM.ba
  have hlf := x.len_fs
  have hls := x.len_ss
  have hG := hg.grL (by omega)
  obtain ⟨k, hk⟩ : ∃ k, k = a % (8 * x.n + 1) := ⟨_, rfl⟩
  have hkn : k ≤ 8 * x.n := by
    have : a % (8 * x.n + 1) < 8 * x.n + 1 := Nat.mod_lt _ (by omega)
    omega
  obtain ⟨u, hu⟩ : ∃ u, u = nrm (k : Nat) 16 := ⟨_, rfl⟩
  have iu : InD (2 * 8) (100 * 8) u := hu ▸ InD.ofN (D := 2 * 8) (M := 100 * 8) _ (by decide) (by omega)
  have le0 : ∀ c : Nat, c ≤ 8 * x.n → (0 : Rat) ≤ nrm (c : Nat) 16 ∧ nrm (c : Nat) 16 ≤ x.of.len := fun c hc => by
    refine ⟨?_, ?_⟩
    · rw [← half_zero, half_le_sxt]; omega
    · show nrm (c : Nat) 16 ≤ nrm (x.n : Int) 2
      refine Rat.not_lt.1 fun h => ?_
      have h1 := half_le_sxt.1 (Rat.le_of_lt h)
      have e : (c : Int) = 8 * x.n := by omega
      rw [sxt_eq, half_eq, e, Rat.intCast_mul] at h
      have e8 : ((8 : Int) : Rat) = 8 := rfl
      rw [e8] at h
      grind
  obtain ⟨u0, u1⟩ := le0 k hkn
  rw [← hu] at u0 u1
  have pu : PlQ x.of u := BmG.pl 8 (by decide) (by decide) iu u0 u1
  obtain ⟨mu, zmu⟩ := hg.mo 8 (by decide) (by decide) iu
  obtain ⟨law1, law2⟩ := great_law hL u0 u1
  obtain ⟨wm, w0, w1⟩ := where_in hL
  obtain ⟨w, hw⟩ : ∃ w, w = x.of.where_ := ⟨_, rfl⟩
  rw [← hw] at law1 law2 wm w0 w1
  obtain ⟨D, D0, D1, iw⟩ := hg.anyD (mem_sortQ.1 wm)
  have pw : PlQ x.of w := BmG.pl D D0 D1 iw w0 w1
  obtain ⟨mw, zmw⟩ := hg.mo D D0 D1 iw
  have zu : szQ u 130 := (fit_x (by decide) (by decide) iu).mono (by decide)
  have zw : szQ w 130 := (fit_x D0 D1 iw).mono (by decide)
  refine calls_enter (args := [smbV x p q m n, .int .u16 (a : Nat)]) Tryz.func3 rfl rfl rfl ?_
  refine zA ?_
  refine zB ?_
  (refine wl_box rfl rfl rfl rfl ?_; intro)
  refine wl_pure Tryz.hT rfl rfl rfl ?_
  refine wl_nil ?_
  rename_i b2
  refine zE ?_
  refine zA ?_
  refine zB ?_
  refine wl_loadBx 0 Tryz.hT rfl rfl rfl rfl rfl rfl rfl rfl ?_
  refine wl_call (X := BmV x.of) rfl rfl rfl rfl rfl rfl (by kernel_rfl) (fun W hp => lawof_gives x p q m n W (hM.hp hp) (hv.hp hp) (ht.hp hp)) ?_
  intro V _
  iterate 3 refine wl_pure Tryz.hT rfl rfl rfl ?_
  (refine wl_allocZ Tryz.hZ rfl rfl rfl rfl ?_; intro)
  refine wl_storeBx 3 Tryz.hT rfl rfl rfl rfl rfl rfl rfl rfl rfl rfl rfl ?_
  refine wl_pure Tryz.hT rfl rfl rfl ?_
  refine wl_nil ?_
  rename_i b5
  refine zE ?_
  refine zA ?_
  refine zB ?_
  refine wl_loadBx 3 Tryz.hT rfl rfl rfl rfl rfl rfl rfl rfl ?_
  refine wl_call1 rfl rfl rfl rfl rfl rfl (by kernel_rfl) (fun W1 hp => (bGreatestL_gives x.of hG (vAdr V.f) (vAdr V.s) (vCap V.f) (vCap V.s) W1 (V.m 1 2 rfl rfl hp hv ht)).cast (by rw [← hw])) ?_
  iterate 7 refine wl_pure Tryz.hT rfl rfl rfl ?_
  refine wl_nil ?_
  refine zE ?_
  refine zA ?_
  refine zB ?_
  refine wl_loadBx 3 Tryz.hT rfl rfl rfl rfl rfl rfl rfl rfl ?_
  refine wl_pure Tryz.hT rfl rfl rfl ?_
  refine wl_call1 rfl rfl rfl rfl rfl rfl (by kernel_rfl) (fun W1 hp => bMoment_gives x.of hC w pw mw (vAdr V.f) (vAdr V.s) (vCap V.f) (vCap V.s) W1 (V.m 1 2 rfl rfl hp hv ht)) ?_
  iterate 5 refine wl_pure Tryz.hT rfl rfl rfl ?_
  refine wl_nil ?_
  refine zE ?_
  refine zA ?_
  refine zB ?_
  refine wl_pure Tryz.hT rfl rfl rfl ?_
  refine wl_loadBx 0 Tryz.hT rfl rfl rfl rfl rfl rfl rfl rfl ?_
  refine wl_cvA Tryz.underlying5 Tryz.underlying3 rfl rfl rfl rfl ?_
  refine wl_upd 40 (.int .i64 (x.a : Nat)) rfl (congrArg (Value.int .i64) (w64_nat (by omega))) ?_
  refine wl_rem rfl rfl rfl rfl rfl (by decide) ?_
  refine wl_upd 41 (.int .i64 ((x.a % 24 : Nat) : Int)) rfl (congrArg (Value.int .i64) (by rw [Int.tmod_eq_emod_of_nonneg (by omega)]; omega)) ?_
  refine wl_pure Tryz.hT rfl rfl rfl ?_
  refine wl_upd 42 (.int .i64 (x.n : Nat)) rfl (congrArg (Value.int .i64) (by show w64 (((x.a % 24 : Nat) : Int) + 2) = _; rw [w64_id (by omega) (by omega)]; unfold SmB.n; omega)) ?_
  refine wl_pure Tryz.hT rfl rfl rfl ?_
  refine wl_nil ?_
  refine zE ?_
  refine zA ?_
  refine zB ?_
  refine wl_pure Tryz.hT rfl rfl rfl ?_
  refine wl_cvA Tryz.underlying26 Tryz.underlying3 rfl rfl rfl rfl ?_
  refine wl_upd 45 (.int .i64 (a : Nat)) rfl (congrArg (Value.int .i64) (w64_nat (by omega))) ?_
  iterate 2 refine wl_pure Tryz.hT rfl rfl rfl ?_
  refine wl_upd 47 (.int .i64 ((8 * x.n : Nat) : Int)) rfl (congrArg (Value.int .i64) (show w64 (8 * (x.n : Nat)) = _ by rw [w64_id (by omega) (by omega)]; omega)) ?_
  refine wl_pure Tryz.hT rfl rfl rfl ?_
  refine wl_upd 48 (.int .i64 ((8 * x.n + 1 : Nat) : Int)) rfl (congrArg (Value.int .i64) (show w64 (((8 * x.n : Nat) : Int) + 1) = _ by rw [w64_id (by omega) (by omega)]; omega)) ?_
  refine wl_rem rfl rfl rfl rfl rfl (by omega) ?_
  refine wl_upd 49 (.int .i64 (k : Nat)) rfl (congrArg (Value.int .i64) (by rw [Int.tmod_eq_emod_of_nonneg (by omega), hk]; exact (Int.natCast_emod _ _).symm)) ?_
  refine wl_call1 rfl rfl rfl rfl rfl rfl (by kernel_rfl) (fun W1 hp => (rof_gives (k : Int) 16 (by omega) (by decide) W1 (ht.hp hp)).cast (by rw [ofR, if_neg (by decide), ← hu])) ?_
  iterate 5 refine wl_pure Tryz.hT rfl rfl rfl ?_
  refine wl_nil ?_
  refine zE ?_
  refine zA ?_
  refine zB ?_
  refine wl_loadBx 3 Tryz.hT rfl rfl rfl rfl rfl rfl rfl rfl ?_
  refine wl_pure Tryz.hT rfl rfl rfl ?_
  refine wl_call1 rfl rfl rfl rfl rfl rfl (by kernel_rfl) (fun W1 hp => bMoment_gives x.of hC u pu mu (vAdr V.f) (vAdr V.s) (vCap V.f) (vCap V.s) W1 (V.m 1 2 rfl rfl hp hv ht)) ?_
  iterate 5 refine wl_pure Tryz.hT rfl rfl rfl ?_
  refine wl_nil ?_
  refine zE ?_
  refine zA ?_
  refine zB ?_
  iterate 2 refine wl_pure Tryz.hT rfl rfl rfl ?_
  refine wl_call1 rfl rfl rfl rfl rfl rfl (by kernel_rfl) (fun W1 hp => (rcompare_gives (x.of.moment u) (x.of.moment w) (sz2 zmu zmw (by decide)) W1 (hv.hp hp) (ht.hp hp)).cast (by rw [cmpZ_Q])) ?_
  iterate 5 refine wl_pure Tryz.hT rfl rfl rfl ?_
  refine wl_nil ?_
  refine zE ?_
  refine zA ?_
  refine zB ?_
  iterate 2 refine wl_pure Tryz.hT rfl rfl rfl ?_
  refine wl_call1 rfl rfl rfl rfl rfl rfl (by kernel_rfl) (fun W1 hp => (rcompare_gives u w (sz2 zu zw (by decide)) W1 (hv.hp hp) (ht.hp hp)).cast (by rw [cmpZ_Q])) ?_
  iterate 5 refine wl_pure Tryz.hT rfl rfl rfl ?_
  refine wl_nil ?_
  refine zE ?_
  refine zA ?_
  refine zB ?_
  iterate 15 refine wl_pure Tryz.hT rfl rfl rfl ?_
  refine wl_upd 85 (.bool true) rfl (congrArg Value.bool ((strEqB _ _).trans (decide_eq_true rfl))) ?_
  iterate 4 refine wl_pure Tryz.hT rfl rfl rfl ?_
  refine wl_upd 89 (.bool true) rfl (congrArg Value.bool ((cmpQ_le0 _ _).trans (decide_eq_true law1))) ?_
  iterate 4 refine wl_pure Tryz.hT rfl rfl rfl ?_
  refine wl_upd 93 (.bool (decide (x.of.moment u < x.of.moment w))) rfl (congrArg Value.bool (cmpQ_lt0 _ _)) ?_
  by_cases c1 : x.of.moment u < x.of.moment w
  · refine wl_upd 93 (.bool true) rfl (congrArg Value.bool (decide_eq_true c1)) ?_
    refine wl_pure Tryz.hT rfl rfl rfl ?_
    iterate 2 refine wl_skip rfl rfl ?_
    iterate 3 refine wl_pure Tryz.hT rfl rfl rfl ?_
    refine wl_call1 rfl rfl rfl rfl rfl rfl (by kernel_rfl) (fun W1 hp => awakeB_gives W1 (hv.hp hp) (ht.hp hp)) ?_
    iterate 2 refine wl_pure Tryz.hT rfl rfl rfl ?_
    refine wl_nil ?_
    refine zE ?_
    refine zO ?_
    exact ne_ret1 Tryz.hT rfl (.tmp rfl) () rfl trivial fun W _ => NewBx.nil _ _
  · refine wl_upd 93 (.bool false) rfl (congrArg Value.bool (decide_eq_false c1)) ?_
    iterate 3 refine wl_pure Tryz.hT rfl rfl rfl ?_
    refine wl_upd 96 (.bool true) rfl (congrArg Value.bool ((cmpQ_ge0 _ _).trans (decide_eq_true (law2 (Rat.le_antisymm law1 (Rat.not_lt.1 c1)))))) ?_
    iterate 3 refine wl_pure Tryz.hT rfl rfl rfl ?_
    refine wl_call1 rfl rfl rfl rfl rfl rfl (by kernel_rfl) (fun W1 hp => awakeB_gives W1 (hv.hp hp) (ht.hp hp)) ?_
    iterate 2 refine wl_pure Tryz.hT rfl rfl rfl ?_
    refine wl_nil ?_
    refine zE ?_
    refine zO ?_
    exact ne_ret1 Tryz.hT rfl (.tmp rfl) () rfl trivial fun W _ => NewBx.nil _ _
end Go.Proofs.YtddadjbflgdomaaGreatDoor
