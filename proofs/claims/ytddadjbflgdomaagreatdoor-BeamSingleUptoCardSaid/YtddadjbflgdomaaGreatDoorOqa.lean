/-
  Lemmas that the theorem beamSingle_upto_card needs (part 1 of 1).
-/
import Derived.Test.YtddadjbflgdomaaGreatDoorBqe
namespace Go.Proofs.YtddadjbflgdomaaGreatDoor
open Go Go.RowKit Go.Am Go.Lib
set_option maxRecDepth 10000
theorem wholeQ (z : Int) : nrm z 1 = (z : Rat) := by
  show mkRat z 1 = _
  exact Rat.mkRat_one z
theorem ofR_one (z : Int) : ofR z 1 = (numS (z : Rat), 0) := by
  rw [ofR, if_neg (by decide), wholeQ]
theorem szQ_int {z : Int} {k : Nat} (h : z.natAbs < 10 ^ k) (hk : 1 < 10 ^ k) : szQ (z : Rat) k := ⟨by rw [Rat.num_intCast]; exact h, by rw [Rat.den_intCast]; exact hk⟩
end Go.Proofs.YtddadjbflgdomaaGreatDoor
namespace Go.Proofs.YtddadjbflgdomaaGreatDoor
theorem compQ_strict (l : List Rat) (h : l.Pairwise (· ≤ ·)) : (compQ l).Pairwise (· < ·) := by
  fun_induction compQ l with
  | case1 => exact List.Pairwise.nil
  | case2 x => simp
  | case3 x l ih =>
    exact ih (List.pairwise_cons.1 h).2
  | case4 x y l hne ih =>
    have h2 := List.pairwise_cons.1 h
    have h3 := List.pairwise_cons.1 h2.2
    refine List.pairwise_cons.2 ⟨fun z hz => ?_, ih h2.2⟩
    have hxy : x < y := Rat.lt_of_le_of_ne (h2.1 y (List.mem_cons_self ..)) fun e => hne e.symm
    rcases List.mem_cons.1 ((mem_compQ _).1 hz) with rfl | hz
    · exact hxy
    · exact Rat.not_le.1 fun e => Rat.not_le.2 hxy (Rat.le_trans (h3.1 z hz) e)
end Go.Proofs.YtddadjbflgdomaaGreatDoor
namespace Go.Proofs.YtddadjbflgdomaaGreatDoor
theorem sumW_app (a b : List (Rat × Rat)) : sumW (a ++ b) = sumW a + sumW b := by
  induction a with
  | nil => show sumW b = 0 + sumW b; grind
  | cons p a ih => show p.2 + sumW (a ++ b) = p.2 + sumW a + sumW b; rw [ih]; grind
end Go.Proofs.YtddadjbflgdomaaGreatDoor
namespace Go.Proofs.YtddadjbflgdomaaGreatDoor
/-- The turning weight of the loads up to a place. -/
def ldF (l : List (Rat × Rat)) (x : Rat) : Rat := x * sumW (l.filter fun f => decide (f.1 ≤ x)) - sumM (l.filter fun f => decide (f.1 ≤ x))
def ldS (l : List (Rat × Rat × Rat)) (x : Rat) : Rat := x * sumW (l.filterMap (sprd x)) - sumM (l.filterMap (sprd x))
theorem ldF_cons (p : Rat × Rat) (l : List (Rat × Rat)) (x : Rat) : ldF (p :: l) x = (if p.1 ≤ x then p.2 * (x - p.1) else 0) + ldF l x := by
  unfold ldF
  rw [List.filter_cons]
  by_cases c : p.1 ≤ x
  · rw [if_pos (decide_eq_true c), if_pos c]
    show x * (p.2 + sumW _) - (p.2 * p.1 + sumM _) = _
    grind
  · rw [if_neg (by simpa using c), if_neg c]; grind
/-- One spread's part. -/
def sp1 (s : Rat × Rat × Rat) (x : Rat) : Rat := if x ≤ s.1 then 0 else if x ≤ s.2.1 then s.2.2 * (x - s.1) * (x - s.1) / 2 else s.2.2 * (s.2.1 - s.1) * (x - (s.1 + s.2.1) / 2)
theorem ldS_cons {s : Rat × Rat × Rat} (hs : s.1 < s.2.1) (l : List (Rat × Rat × Rat)) (x : Rat) : ldS (s :: l) x = sp1 s x + ldS l x := by
  unfold ldS sp1
  rw [List.filterMap_cons]
  by_cases c1 : x ≤ s.1
  · have e : sprd x s = none := by unfold sprd; rw [if_neg]; split <;> grind
    rw [e, if_pos c1]; simp only; grind
  · rw [if_neg c1]
    by_cases c2 : x ≤ s.2.1
    · have e : sprd x s = some ((s.1 + x) / 2, s.2.2 * (x - s.1)) := by
        have e0 : (if x < s.2.1 then x else s.2.1) = x := by split; rfl; grind
        unfold sprd; rw [e0, if_pos (Rat.not_le.1 c1)]
      rw [e, if_pos c2]
      show x * (s.2.2 * (x - s.1) + sumW _) - (s.2.2 * (x - s.1) * ((s.1 + x) / 2) + sumM _) = _
      grind
    · have e : sprd x s = some ((s.1 + s.2.1) / 2, s.2.2 * (s.2.1 - s.1)) := by
        have e0 : (if x < s.2.1 then x else s.2.1) = s.2.1 := by split; grind; rfl
        unfold sprd; rw [e0, if_pos hs]
      rw [e, if_neg c2]
      show x * (s.2.2 * (s.2.1 - s.1) + sumW _) - (s.2.2 * (s.2.1 - s.1) * ((s.1 + s.2.1) / 2) + sumM _) = _
      grind
theorem sp1_full {s : Rat × Rat × Rat} {L : Rat} (hL : s.2.1 ≤ L) (hs : s.1 < s.2.1) : sp1 s L = s.2.2 * (s.2.1 - s.1) * (L - (s.1 + s.2.1) / 2) := by
  unfold sp1
  rw [if_neg (show ¬ L ≤ s.1 by grind)]
  by_cases c : L ≤ s.2.1
  · have e : L = s.2.1 := Rat.le_antisymm c hL
    rw [if_pos c, e]; grind
  · rw [if_neg c]
theorem moment_ld (b : BmP) (x : Rat) : b.moment x = (if b.l < x then b.left * (x - b.l) else 0) + (if b.r < x then b.right * (x - b.r) else 0) - (ldF b.fs x + ldS b.ss x) := by
  unfold BmP.moment BmP.pts ldF ldS
  rw [sumW_app, sumM_app]; grind
end Go.Proofs.YtddadjbflgdomaaGreatDoor
namespace Go.Proofs.YtddadjbflgdomaaGreatDoor
theorem pc_sup {p q c v x : Rat} (h : Out p q c) (h1 : p ≤ x) (h2 : x ≤ q) (hpq : p < q) : (if c < x then v * (x - c) else 0) = (if c < p then v * (p - c) else 0) + (if c ≤ p then v else 0) * (x - p) := by
  rcases h with h | h
  · rw [if_pos h]
    by_cases c1 : c < p
    · rw [if_pos c1, if_pos (show c < x by grind)]; grind
    · have e : c = p := Rat.le_antisymm h (Rat.not_lt.1 c1)
      rw [if_neg c1]
      by_cases c2 : c < x
      · rw [if_pos c2, e]; grind
      · rw [if_neg c2]; have : x = p := by grind
        grind
  · rw [if_neg (show ¬ c < x by grind), if_neg (show ¬ c < p by grind), if_neg (show ¬ c ≤ p by grind)]; grind
theorem pc_F {p q x : Rat} (h1 : p ≤ x) (h2 : x ≤ q) (hpq : p < q) (l : List (Rat × Rat)) (h : ∀ f ∈ l, Out p q f.1) : ldF l x = ldF l p + sumW (l.filter fun f => decide (f.1 ≤ p)) * (x - p) := by
  induction l with
  | nil => show x * 0 - 0 = p * 0 - 0 + 0 * (x - p); grind
  | cons f l ih =>
    have i1 := ih fun g hg => h g (List.mem_cons_of_mem _ hg)
    rw [ldF_cons, ldF_cons, i1, List.filter_cons]
    rcases h f (List.mem_cons_self ..) with c | c
    · rw [if_pos c, if_pos (Rat.le_trans c h1), if_pos (decide_eq_true c)]
      show _ = _ + (f.2 + sumW _) * (x - p)
      grind
    · have n1 : ¬ f.1 ≤ p := by grind
      rw [if_neg n1, if_neg (show ¬ decide (f.1 ≤ p) = true by simpa using n1)]
      by_cases c2 : f.1 ≤ x
      · have e : x = f.1 := by grind
        rw [if_pos c2, e]; grind
      · rw [if_neg c2]; grind
theorem pc_S {p q x : Rat} (h1 : p ≤ x) (h2 : x ≤ q) (hpq : p < q) (l : List (Rat × Rat × Rat)) (h0 : ∀ s ∈ l, s.1 < s.2.1) (hA : ∀ s ∈ l, Out p q s.1) (hB : ∀ s ∈ l, Out p q s.2.1) :
    ldS l x = ldS l p + sumW (l.filterMap (sprd p)) * (x - p) + ldAt p q l * ((x - p) * (x - p)) / 2 := by
  induction l with
  | nil => show x * 0 - 0 = p * 0 - 0 + 0 * (x - p) + 0 * ((x - p) * (x - p)) / 2; grind
  | cons s l ih =>
    have i1 := ih (fun g hg => h0 g (List.mem_cons_of_mem _ hg)) (fun g hg => hA g (List.mem_cons_of_mem _ hg)) (fun g hg => hB g (List.mem_cons_of_mem _ hg))
    have hs := h0 s (List.mem_cons_self ..)
    rw [ldS_cons hs, ldS_cons hs, i1, List.filterMap_cons]
    show _ = _ + _ + ((if s.1 ≤ p ∧ q ≤ s.2.1 then s.2.2 else 0) + ldAt p q l) * ((x - p) * (x - p)) / 2
    generalize ldS l p = u
    generalize ldAt p q l = w
    rcases hA s (List.mem_cons_self ..) with a | a
    · rcases hB s (List.mem_cons_self ..) with c | c
      · -- behind
        have e : sprd p s = some ((s.1 + s.2.1) / 2, s.2.2 * (s.2.1 - s.1)) := by
          unfold sprd; rw [if_neg (Rat.not_lt.2 c), if_pos hs]
        rw [e, if_neg (show ¬ (s.1 ≤ p ∧ q ≤ s.2.1) from fun h => by grind)]
        show _ = _ + (s.2.2 * (s.2.1 - s.1) + sumW _) * (x - p) + _
        generalize sumW (l.filterMap (sprd p)) = k
        have v : ∀ y, s.2.1 ≤ y → sp1 s y = s.2.2 * (s.2.1 - s.1) * (y - (s.1 + s.2.1) / 2) := fun y hy => sp1_full hy hs
        rw [v x (Rat.le_trans c h1), v p c]; grind
      · -- upon it
        rw [if_pos ⟨a, c⟩]
        have v : ∀ y, s.1 ≤ y → y ≤ s.2.1 → sp1 s y = s.2.2 * (y - s.1) * (y - s.1) / 2 := fun y b1 b2 => by
          unfold sp1
          by_cases c1 : y ≤ s.1
          · have e : y = s.1 := Rat.le_antisymm c1 b1
            rw [if_pos c1, e]; grind
          · rw [if_neg c1, if_pos b2]
        rw [v x (Rat.le_trans a h1) (Rat.le_trans h2 c), v p a (show p ≤ s.2.1 by grind)]
        by_cases c1 : s.1 < p
        · have e : sprd p s = some ((s.1 + p) / 2, s.2.2 * (p - s.1)) := by
            unfold sprd; rw [if_pos (show p < s.2.1 by grind), if_pos c1]
          rw [e]
          show _ = _ + (s.2.2 * (p - s.1) + sumW _) * (x - p) + _
          generalize sumW (l.filterMap (sprd p)) = k
          grind
        · have e2 : s.1 = p := Rat.le_antisymm a (Rat.not_lt.1 c1)
          have e : sprd p s = none := by
            unfold sprd; rw [if_pos (show p < s.2.1 by grind), if_neg c1]
          rw [e]
          simp only
          generalize sumW (l.filterMap (sprd p)) = k
          grind
    · -- ahead
      have e : sprd p s = none := by
        unfold sprd; rw [if_pos (show p < s.2.1 by grind), if_neg (show ¬ s.1 < p by grind)]
      have v : ∀ y, y ≤ s.1 → sp1 s y = 0 := fun y b1 => by unfold sp1; rw [if_pos b1]
      rw [e, v x (Rat.le_trans h2 a), v p (show p ≤ s.1 by grind), if_neg (show ¬ (s.1 ≤ p ∧ q ≤ s.2.1) from fun h => by grind)]
      simp only
      generalize sumW (l.filterMap (sprd p)) = k
      grind
theorem piece {b : BmP} (h0 : ∀ s ∈ b.ss, s.1 < s.2.1) {p q x : Rat} (h : b.Pc p q) (h1 : p ≤ x) (h2 : x ≤ q) (hpq : p < q) :
    b.moment x = b.moment p + b.shear p * (x - p) - ldAt p q b.ss * ((x - p) * (x - p)) / 2 := by
  rw [moment_ld, moment_ld, pc_sup h.l h1 h2 hpq, pc_sup h.r h1 h2 hpq, pc_F h1 h2 hpq b.fs h.f, pc_S h1 h2 hpq b.ss h0 h.s1 h.s2]
  unfold BmP.shear BmP.pts
  rw [sumW_app]
  grind
/-- A parabola's greatest value upon a piece. -/
theorem parab {A B K D M u : Rat} (hu : 0 < u) (hD : u < D) (hA : A ≤ M) (hE : A + B * D - K * (D * D) / 2 ≤ M) (hz : K ≠ 0 → 0 < B / K → B / K < D → A + B * (B / K) - K * ((B / K) * (B / K)) / 2 ≤ M) :
    A + B * u - K * (u * u) / 2 ≤ M ∧ (A + B * u - K * (u * u) / 2 = M → A = M ∨ (K ≠ 0 ∧ u = B / K)) := by
  have nn : ∀ x y : Rat, 0 < x → 0 < y → 0 < x * y := fun x y => Rat.mul_pos
  by_cases k0 : K = 0
  · subst k0
    by_cases b0 : 0 < B
    · have := nn B (D - u) b0 (by grind)
      constructor
      · grind
      · intro h; exfalso; grind
    · have := Rat.mul_nonneg (show 0 ≤ -B by grind) (Rat.le_of_lt hu)
      constructor
      · grind
      · intro h; left; grind
  · by_cases kp : 0 < K
    · obtain ⟨v, hv⟩ : ∃ v, v = B / K := ⟨_, rfl⟩
      have hvK : v * K = B := by grind
      rw [← hv] at hz ⊢
      clear hv
      subst hvK
      by_cases c1 : 0 < v
      · by_cases c2 : v < D
        · have hz := hz k0 c1 c2
          by_cases e : u = v
          · subst e
            exact ⟨hz, fun _ => .inr ⟨k0, rfl⟩⟩
          · have : 0 < (u - v) * (u - v) := by
              by_cases g : u < v
              · have := nn (v - u) (v - u) (by grind) (by grind); grind
              · exact nn (u - v) (u - v) (by grind) (by grind)
            have := nn K _ kp this
            constructor
            · grind
            · intro h; exfalso; grind
        · -- the vertex behind
          have a1 := nn (D - u) (K * (D - u)) (by grind) (nn K (D - u) kp (by grind))
          have a2 := Rat.mul_nonneg (Rat.mul_nonneg (Rat.le_of_lt kp) (show 0 ≤ v - D by grind)) (show 0 ≤ D - u by grind)
          constructor
          · grind
          · intro h; exfalso; grind
      · have a1 := nn u (K * u) hu (nn K u kp hu)
        have a2 := Rat.mul_nonneg (Rat.mul_nonneg (Rat.le_of_lt kp) (show 0 ≤ -v by grind)) (Rat.le_of_lt hu)
        constructor
        · grind
        · intro h; exfalso; grind
    · have kn : 0 < -K := by have := Rat.not_lt.1 kp; have := Rat.lt_of_le_of_ne this k0; grind
      -- value = A + (E - A) u / D + K u (D - u) / 2
      have hD0 : 0 < D := by grind
      have a1 := nn (-K) (u * (D - u)) kn (nn u (D - u) hu (by grind))
      obtain ⟨t, ht⟩ : ∃ t, t = u / D := ⟨_, rfl⟩
      have htD : t * D = u := by grind
      have t0 : 0 < t := by
        refine Rat.not_le.1 fun h => ?_
        have := Rat.mul_nonneg (show 0 ≤ -t by grind) (Rat.le_of_lt hD0)
        grind
      have t1 : t < 1 := by
        refine Rat.not_le.1 fun h => ?_
        have := Rat.mul_nonneg (show 0 ≤ t - 1 by grind) (Rat.le_of_lt hD0)
        grind
      obtain ⟨E, hEE⟩ : ∃ E, E = A + B * D - K * (D * D) / 2 := ⟨_, rfl⟩
      rw [← hEE] at hE
      have b1 := Rat.mul_nonneg (show 0 ≤ 1 - t by grind) (show 0 ≤ M - A by grind)
      have b2 := Rat.mul_nonneg (Rat.le_of_lt t0) (show 0 ≤ M - E by grind)
      have e1 : A + B * u - K * (u * u) / 2 = (1 - t) * A + t * E + K * (u * (D - u)) / 2 := by rw [hEE, ← htD]; grind
      rw [e1]
      constructor
      · grind
      · intro h; exfalso; grind
end Go.Proofs.YtddadjbflgdomaaGreatDoor
namespace Go.Proofs.YtddadjbflgdomaaGreatDoor
theorem best_law (m : Rat → Rat) : ∀ (l : List Rat) (w : Rat), (w :: l).Pairwise (· ≤ ·) → bestQ m w l ∈ w :: l ∧ (∀ y ∈ w :: l, m y ≤ m (bestQ m w l)) ∧ (∀ y ∈ w :: l, m y = m (bestQ m w l) → bestQ m w l ≤ y)
  | [], w, _ => by
    refine ⟨List.mem_cons_self .., fun y hy => ?_, fun y hy _ => ?_⟩
    · obtain rfl := List.mem_singleton.1 hy; exact Rat.le_refl
    · obtain rfl := List.mem_singleton.1 hy; exact Rat.le_refl
  | x :: l, w, h => by
    have h1 := List.pairwise_cons.1 h
    have h2 := List.pairwise_cons.1 h1.2
    unfold bestQ
    by_cases c : m w < m x
    · rw [if_pos c]
      obtain ⟨a1, a2, a3⟩ := best_law m l x h1.2
      refine ⟨List.mem_cons_of_mem _ a1, fun y hy => ?_, fun y hy e => ?_⟩
      · rcases List.mem_cons.1 hy with rfl | hy
        · exact Rat.le_trans (Rat.le_of_lt c) (a2 x (List.mem_cons_self ..))
        · exact a2 y hy
      · rcases List.mem_cons.1 hy with rfl | hy
        · have := a2 x (List.mem_cons_self ..)
          rw [← e] at this
          exact absurd c (Rat.not_lt.2 this)
        · exact a3 y hy e
    · rw [if_neg c]
      have c := Rat.not_lt.1 c
      obtain ⟨a1, a2, a3⟩ := best_law m l w (List.pairwise_cons.2 ⟨fun y hy => h1.1 y (List.mem_cons_of_mem _ hy), h2.2⟩)
      refine ⟨?_, fun y hy => ?_, fun y hy e => ?_⟩
      · rcases List.mem_cons.1 a1 with e | a1
        · rw [e]; exact List.mem_cons_self ..
        · exact List.mem_cons_of_mem _ (List.mem_cons_of_mem _ a1)
      · rcases List.mem_cons.1 hy with rfl | hy
        · exact a2 y (List.mem_cons_self ..)
        · rcases List.mem_cons.1 hy with rfl | hy
          · exact Rat.le_trans c (a2 w (List.mem_cons_self ..))
          · exact a2 y (List.mem_cons_of_mem _ hy)
      · rcases List.mem_cons.1 hy with rfl | hy
        · exact a3 y (List.mem_cons_self ..) e
        · rcases List.mem_cons.1 hy with rfl | hy
          · have e2 : m w = m (bestQ m w l) := Rat.le_antisymm (a2 w (List.mem_cons_self ..)) (by rw [← e]; exact c)
            exact Rat.le_trans (a3 w (List.mem_cons_self ..) e2) (h1.1 y (List.mem_cons_self ..))
          · exact a3 y (List.mem_cons_of_mem _ hy) e
/-- A place among strictly ascending ones, or between two neighbours. -/
theorem cover {x : Rat} : ∀ (c : List Rat) (a : Rat), (a :: c).Pairwise (· < ·) → a ≤ x → (∃ z ∈ a :: c, x ≤ z) → x ∈ a :: c ∨ ∃ l1 p q l2, a :: c = l1 ++ p :: q :: l2 ∧ p < x ∧ x < q
  | [], a, _, h1, ⟨z, hz, h2⟩ => by
    obtain rfl := List.mem_singleton.1 hz
    exact .inl (by rw [Rat.le_antisymm h2 h1]; exact List.mem_cons_self ..)
  | y :: c, a, h, h1, ⟨z, hz, h2⟩ => by
    have p1 := List.pairwise_cons.1 h
    by_cases e : x = a
    · exact .inl (by rw [e]; exact List.mem_cons_self ..)
    have hax : a < x := Rat.lt_of_le_of_ne h1 fun h => e h.symm
    by_cases hy : x < y
    · exact .inr ⟨[], a, y, c, rfl, hax, hy⟩
    · have hy := Rat.not_lt.1 hy
      have hz' : z ∈ y :: c := by
        rcases List.mem_cons.1 hz with rfl | hz
        · exact absurd hax (Rat.not_lt.2 h2)
        · exact hz
      rcases cover c y p1.2 hy ⟨z, hz', h2⟩ with h | ⟨l1, p, q, l2, h3, h4⟩
      · exact .inl (List.mem_cons_of_mem _ h)
      · exact .inr ⟨a :: l1, p, q, l2, by rw [h3]; rfl, h4⟩
theorem near_out {l1 l2 : List Rat} {p q : Rat} (h : (l1 ++ p :: q :: l2).Pairwise (· < ·)) : p < q ∧ ∀ y ∈ l1 ++ p :: q :: l2, Out p q y := by
  obtain ⟨_, h2, h3⟩ := List.pairwise_append.1 h
  have h4 := List.pairwise_cons.1 h2
  have h5 := List.pairwise_cons.1 h4.2
  refine ⟨h4.1 q (List.mem_cons_self ..), fun y hy => ?_⟩
  rcases List.mem_append.1 hy with hy | hy
  · exact .inl (Rat.le_of_lt (h3 y hy p (List.mem_cons_self ..)))
  · rcases List.mem_cons.1 hy with rfl | hy
    · exact .inl Rat.le_refl
    · rcases List.mem_cons.1 hy with rfl | hy
      · exact .inr Rat.le_refl
      · exact .inr (Rat.le_of_lt (h5.1 y hy))
theorem mem_zeros (b : BmP) {z p q : Rat} (hz : z ∈ b.zero1 p q) : ∀ (l1 l2 : List Rat), z ∈ b.zeros (l1 ++ p :: q :: l2)
  | [], l2 => by show z ∈ b.zero1 p q ++ _; exact List.mem_append_left _ hz
  | [a], l2 => by show z ∈ b.zero1 a p ++ b.zeros ([] ++ p :: q :: l2); exact List.mem_append_right _ (mem_zeros b hz [] l2)
  | a :: c :: l1, l2 => by show z ∈ b.zero1 a c ++ b.zeros ((c :: l1) ++ p :: q :: l2); exact List.mem_append_right _ (mem_zeros b hz (c :: l1) l2)
theorem great_law {b : BmP} (h : b.Lies) {x : Rat} (hx0 : 0 ≤ x) (hx1 : x ≤ b.len) : b.moment x ≤ b.moment b.where_ ∧ (b.moment x = b.moment b.where_ → b.where_ ≤ x) := by
  have hchg : b.chg.Pairwise (· < ·) := compQ_strict _ (sortQ_sorted _)
  have hsort : b.places.Pairwise (· ≤ ·) := sortQ_sorted _
  have hmem : ∀ y, y ∈ b.places ↔ y ∈ b.chg ∨ y ∈ b.zeros b.chg := fun y => by unfold BmP.places; rw [mem_sortQ, List.mem_append]
  have hbest : (∀ y ∈ b.places, b.moment y ≤ b.moment b.where_) ∧ (∀ y ∈ b.places, b.moment y = b.moment b.where_ → b.where_ ≤ y) := by
    unfold BmP.where_
    cases hp : b.places with
    | nil =>
      have : (0 : Rat) ∈ b.places := (hmem 0).2 (.inl (mem_chg.2 (.inl rfl)))
      rw [hp] at this
      cases this
    | cons a l =>
      rw [hp] at hsort
      exact (best_law b.moment l a hsort).2
  have cands : ∀ y ∈ b.chg, b.moment y ≤ b.moment b.where_ ∧ (b.moment y = b.moment b.where_ → b.where_ ≤ y) := fun y hy => ⟨hbest.1 y ((hmem y).2 (.inl hy)), hbest.2 y ((hmem y).2 (.inl hy))⟩
  -- x among the changes, or between two of them
  have h0c : (0 : Rat) ∈ b.chg := mem_chg.2 (.inl rfl)
  have hLc : b.len ∈ b.chg := mem_chg.2 (.inr (.inl rfl))
  have hcov : x ∈ b.chg ∨ ∃ l1 p q l2, b.chg = l1 ++ p :: q :: l2 ∧ p < x ∧ x < q := by
    cases hc : b.chg with
    | nil => rw [hc] at h0c; cases h0c
    | cons a c =>
      rw [hc] at hchg h0c hLc
      refine cover c a hchg ?_ ⟨b.len, hLc, hx1⟩
      rcases List.mem_cons.1 h0c with e | e
      · rw [← e]; exact hx0
      · exact Rat.le_trans (Rat.le_of_lt ((List.pairwise_cons.1 hchg).1 0 e)) hx0
  rcases hcov with hin | ⟨l1, p, q, l2, hc, h1, h2⟩
  · exact cands x hin
  have hchg2 := hchg
  rw [hc] at hchg2
  obtain ⟨hpq, hout⟩ := near_out hchg2
  have hout : ∀ y ∈ b.chg, Out p q y := fun y hy => hout y (by rw [← hc]; exact hy)
  have hpc : b.Pc p q := ⟨hout _ (mem_chg.2 (.inr (.inr (.inl rfl)))), hout _ (mem_chg.2 (.inr (.inr (.inr (.inl rfl))))), fun f hf => hout _ (mem_chg.2 (.inr (.inr (.inr (.inr (.inl ⟨f, hf, rfl⟩)))))),
    fun s hs => hout _ (mem_chg.2 (.inr (.inr (.inr (.inr (.inr ⟨s, hs, .inl rfl⟩)))))), fun s hs => hout _ (mem_chg.2 (.inr (.inr (.inr (.inr (.inr ⟨s, hs, .inr rfl⟩))))))⟩
  have hp := cands p (by rw [hc]; exact List.mem_append_right _ (List.mem_cons_self ..))
  have hq := cands q (by rw [hc]; exact List.mem_append_right _ (List.mem_cons_of_mem _ (List.mem_cons_self ..)))
  have ex := piece h.s1 hpc (Rat.le_of_lt h1) (Rat.le_of_lt h2) hpq
  have eq := piece h.s1 hpc (Rat.le_of_lt hpq) Rat.le_refl hpq
  have hzero : ∀ v, v = b.shear p / ldAt p q b.ss → ldAt p q b.ss ≠ 0 → 0 < v → v < q - p → p + v ∈ b.places ∧ b.moment (p + v) = b.moment p + b.shear p * v - ldAt p q b.ss * (v * v) / 2 := by
    intro v hv k0 v0 v1
    refine ⟨(hmem _).2 (.inr ?_), ?_⟩
    · rw [hc]
      refine mem_zeros b ?_ l1 l2
      unfold BmP.zero1
      rw [if_neg k0, ← hv, if_pos ⟨by grind, by grind⟩]
      exact List.mem_singleton.2 rfl
    · have := piece h.s1 hpc (x := p + v) (by grind) (by grind) hpq
      rw [this]; grind
  obtain ⟨r1, r2⟩ := parab (A := b.moment p) (B := b.shear p) (K := ldAt p q b.ss) (D := q - p) (M := b.moment b.where_) (u := x - p) (by grind) (by grind) hp.1 (by rw [← eq]; exact hq.1) (fun k0 v0 v1 => by
    obtain ⟨z1, z2⟩ := hzero _ rfl k0 v0 v1
    rw [← z2]; exact hbest.1 _ z1)
  rw [← ex] at r1 r2
  refine ⟨r1, fun e => ?_⟩
  rcases r2 e with r2 | ⟨k0, hu⟩
  · exact Rat.le_trans (hp.2 r2) (Rat.le_of_lt h1)
  · obtain ⟨z1, z2⟩ := hzero (x - p) hu k0 (by grind) (by grind)
    rw [show p + (x - p) = x by grind] at z1
    exact hbest.2 x z1 e
end Go.Proofs.YtddadjbflgdomaaGreatDoor
namespace Go.Proofs.YtddadjbflgdomaaGreatDoor
theorem places_in {b : BmP} (h : b.Lies) {y : Rat} (hy : y ∈ b.places) : 0 ≤ y ∧ y ≤ b.len := by
  unfold BmP.places at hy
  rw [mem_sortQ, List.mem_append] at hy
  rcases hy with hy | hy
  · exact chg_in h hy
  · obtain ⟨p, hp, q, hq, h1, h2⟩ := zeros_in b b.chg hy
    exact ⟨Rat.le_trans (chg_in h hp).1 (Rat.le_of_lt h1), Rat.le_trans (Rat.le_of_lt h2) (chg_in h hq).2⟩
theorem where_in {b : BmP} (h : b.Lies) : b.where_ ∈ b.places ∧ 0 ≤ b.where_ ∧ b.where_ ≤ b.len := by
  have hm : b.where_ ∈ b.places := by
    have hsort : b.places.Pairwise (· ≤ ·) := sortQ_sorted _
    unfold BmP.where_
    cases hp : b.places with
    | nil =>
      have : (0 : Rat) ∈ b.places := by unfold BmP.places; rw [mem_sortQ, List.mem_append]; exact .inl (mem_chg.2 (.inl rfl))
      rw [hp] at this
      cases this
    | cons a l =>
      rw [hp] at hsort
      exact (best_law b.moment l a hsort).1
  exact ⟨hm, places_in h hm⟩
def oneF (x y F : Rat) : BmP := ⟨x + y, 0, x + y, [(x, F)], []⟩
theorem oneF_lies {x y F : Rat} (hx : 0 < x) (hy : 0 < y) : (oneF x y F).Lies := by
  refine ⟨by show 0 < x + y; grind, Rat.le_refl, by show 0 < x + y; grind, Rat.le_refl, fun f hf => ?_, fun f hf => ?_, fun s hs => absurd hs List.not_mem_nil, fun s hs => absurd hs List.not_mem_nil, fun s hs => absurd hs List.not_mem_nil⟩
  · obtain rfl := List.mem_singleton.1 hf; show 0 ≤ x; grind
  · obtain rfl := List.mem_singleton.1 hf; show x ≤ x + y; grind
theorem oneF_moment {x y F t : Rat} (hx : 0 < x) (hy : 0 < y) (h0 : 0 ≤ t) (h1 : t ≤ x + y) : (oneF x y F).moment t = F * y / (x + y) * t - (if x ≤ t then F * (t - x) else 0) := by
  have hL : x + y ≠ 0 := by grind
  have hp : ∀ z, (oneF x y F).pts z = if x ≤ z then [(x, F)] else [] := fun z => by
    show [(x, F)].filter (fun f => decide (f.1 ≤ z)) ++ [] = _
    rw [List.filter_cons, List.filter_nil, List.append_nil]
    by_cases c : x ≤ z
    · rw [if_pos (decide_eq_true c), if_pos c]
    · rw [if_neg (by simpa using c), if_neg c]
  have hfull : (oneF x y F).pts (x + y) = [(x, F)] := by rw [hp, if_pos (show x ≤ x + y by grind)]
  have ht : (oneF x y F).total = F := by
    show sumW ((oneF x y F).pts (x + y)) = F
    rw [hfull]; show F + 0 = F; grind
  have hr : (oneF x y F).right = F * x / (x + y) := by
    show (sumM ((oneF x y F).pts (x + y)) - 0 * sumW ((oneF x y F).pts (x + y))) / (x + y - 0) = _
    rw [hfull]
    show (F * x + 0 - 0 * (F + 0)) / (x + y - 0) = _
    rw [show F * x + 0 - 0 * (F + 0) = F * x by grind, show x + y - 0 = x + y by grind]
  have hl : (oneF x y F).left = F * y / (x + y) := by
    unfold BmP.left
    rw [ht, hr]; grind
  unfold BmP.moment
  rw [hl, hr, hp]
  show (if (0 : Rat) < t then F * y / (x + y) * (t - 0) else 0) + (if x + y < t then F * x / (x + y) * (t - (x + y)) else 0) - _ = _
  rw [if_neg (Rat.not_lt.2 h1)]
  have e0 : (if (0 : Rat) < t then F * y / (x + y) * (t - 0) else 0) = F * y / (x + y) * t := by
    by_cases c : 0 < t
    · rw [if_pos c]; grind
    · have e : t = 0 := Rat.le_antisymm (Rat.not_lt.1 c) h0
      rw [if_neg c, e]; grind
  rw [e0]
  by_cases c : x ≤ t
  · rw [if_pos c, if_pos c]
    show _ + 0 - (t * (F + 0) - (F * x + 0)) = _
    grind
  · rw [if_neg c, if_neg c]
    show _ + 0 - (t * 0 - 0) = _
    grind
theorem single_law {x y F : Rat} (hx : 0 < x) (hy : 0 < y) (hF : 0 < F) : (oneF x y F).where_ = x ∧ (oneF x y F).moment x = F * x * y / (x + y) := by
  have hb := oneF_lies (F := F) hx hy
  obtain ⟨_, w0, w1⟩ := where_in hb
  have w1 : (oneF x y F).where_ ≤ x + y := w1
  have hm := oneF_moment (F := F) (t := x) hx hy (Rat.le_of_lt hx) (by grind)
  rw [if_pos Rat.le_refl] at hm
  have hg := (great_law hb (x := x) (Rat.le_of_lt hx) (by show x ≤ x + y; grind)).1
  have hw := oneF_moment (F := F) hx hy w0 w1
  refine ⟨?_, by rw [hm]; grind⟩
  generalize (oneF x y F).where_ = w at *
  obtain ⟨c, hc⟩ : ∃ c, c = F * y / (x + y) := ⟨_, rfl⟩
  obtain ⟨e, he⟩ : ∃ e, e = F * x / (x + y) := ⟨_, rfl⟩
  have hL : x + y ≠ 0 := by grind
  have hce : c + e = F := by grind
  have hcL : c * (x + y) = F * y := by grind
  have heL : e * (x + y) = F * x := by grind
  have pos : ∀ k z : Rat, k * (x + y) = F * z → 0 < z → 0 < k := fun k z h hz => by
    refine Rat.not_le.1 fun hk => ?_
    have a1 := Rat.mul_nonneg (show 0 ≤ -k by grind) (show 0 ≤ x + y by grind)
    have a2 := Rat.mul_pos hF hz
    grind
  have c0 := pos c y hcL hy
  have e0 := pos e x heL hx
  rw [hm, hw, ← hc] at hg
  by_cases g1 : w < x
  · rw [if_neg (Rat.not_le.2 g1)] at hg
    have := Rat.mul_pos c0 (show 0 < x - w by grind)
    exfalso; grind
  · by_cases g2 : x < w
    · rw [if_pos (Rat.le_of_lt g2)] at hg
      have := Rat.mul_pos e0 (show 0 < w - x by grind)
      exfalso
      rw [← hce] at hg
      clear hw hm hc he hcL heL pos hb hce
      grind
    · exact Rat.le_antisymm (Rat.not_lt.1 g2) (Rat.not_lt.1 g1)
end Go.Proofs.YtddadjbflgdomaaGreatDoor
namespace Go.Proofs.YtddadjbflgdomaaGreatDoor
set_option maxRecDepth 10000
structure One (x y F : Rat) : Prop where
  bx : BnQ x
  bl : BnQ (x + y)
  bf : BnQ F
  sx : szQ x 5
  sy : szQ y 5
  sf : szQ F 5
  x0 : 0 < x
  y0 : 0 < y
theorem one_pts (x y F t : Rat) : (oneF x y F).pts t = if x ≤ t then [(x, F)] else [] := by
  show [(x, F)].filter (fun f => decide (f.1 ≤ t)) ++ [] = _
  rw [List.append_nil]
  by_cases h : x ≤ t
  · rw [if_pos h]; simp [h]
  · rw [if_neg h]; simp [h]
theorem one_split {x y F t : Rat} {l1 l2 : List (Rat × Rat)} {p : Rat × Rat} (h : (oneF x y F).pts t = l1 ++ p :: l2) : l1 = [] ∧ p = (x, F) := by
  rw [one_pts] at h
  split at h
  · cases l1 with
    | nil => exact ⟨rfl, by injection h with h1 _; exact h1.symm⟩
    | cons a l => injection h with _ h2; simp at h2
  · simp at h
theorem sz0 : szQ (0 : Rat) 1 := ⟨by decide, by decide⟩
section
variable {x y F : Rat}
theorem One.lies (h : One x y F) : (oneF x y F).Lies := oneF_lies h.x0 h.y0
theorem One.len (h : One x y F) : szQ (x + y) 11 := h.sx.add h.sy
theorem One.le (h : One x y F) : x ≤ x + y := by have := h.y0; grind
theorem One.chk (h : One x y F) : BmC (oneF x y F) := by
  refine ⟨h.lies, h.bl, bn0, h.bl, fun f hm => ?_, fun s hm => absurd hm List.not_mem_nil, ?_, ?_⟩
  · obtain rfl := List.mem_singleton.1 hm; exact ⟨h.bx, h.bf⟩
  · show 1 ≤ 64; decide
  · show 0 ≤ 64; decide
theorem One.fold (h : One x y F) {t : Rat} (ht : szQ t 12) : FoldZ (oneF x y F) t := by
  refine ⟨fun f hm => ?_, fun s hm => absurd hm List.not_mem_nil, fun s hm => absurd hm List.not_mem_nil, fun s hm => absurd hm List.not_mem_nil⟩
  obtain rfl := List.mem_singleton.1 hm
  exact sz2 h.sx ht (by decide)
theorem One.total (h : One x y F) : szQ (oneF x y F).total 7 := by
  rw [total_acc, one_pts, if_pos (show x ≤ (oneF x y F).len from h.le)]
  exact sz0.add h.sf
theorem One.turn (h : One x y F) : szQ (oneF x y F).turn 14 := by
  rw [turn_acc, one_pts, if_pos (show x ≤ (oneF x y F).len from h.le)]
  exact sz0.add (h.sf.mul (h.sx.sub sz0))
theorem One.span (h : One x y F) : szQ ((oneF x y F).r - (oneF x y F).l) 13 ∧ (oneF x y F).r - (oneF x y F).l ≠ 0 := by
  refine ⟨h.len.sub sz0, ?_⟩
  show x + y - 0 ≠ 0
  have := h.x0
  have := h.y0
  grind
theorem One.right (h : One x y F) : szQ (oneF x y F).right 27 := h.turn.div h.span.1 (num_ne h.span.2)
theorem One.left (h : One x y F) : szQ (oneF x y F).left 35 := h.total.sub h.right
theorem One.rc (h : One x y F) : RcZ (oneF x y F) := by
  refine ⟨h.fold (h.len.mono (by decide)), (show 1 ≤ 1000 by decide), (show 0 ≤ 1000 by decide), fun l1 p l2 e => ?_, fun l1 p l2 e => ?_, sz2 h.len sz0 (by decide), sz2 h.turn h.span.1 (by decide), num_ne h.span.2, sz2 h.total h.right (by decide)⟩
  · obtain ⟨rfl, rfl⟩ := one_split e
    exact sz2 sz0 h.sf (by decide)
  · obtain ⟨rfl, rfl⟩ := one_split e
    exact ⟨sz2 h.sx sz0 (by decide), sz2 h.sf (h.sx.sub sz0) (by decide), sz2 sz0 (h.sf.mul (h.sx.sub sz0)) (by decide)⟩
theorem sz_if {c : Prop} [Decidable c] {q : Rat} {k : Nat} (h : szQ q k) (hk : 1 ≤ k) : szQ (if c then q else 0) k := by
  split
  · exact h
  · exact sz0.mono hk
theorem One.sup (h : One x y F) (t : Rat) : szQ ((oneF x y F).sup t) 63 := (sz_if h.left (by decide)).add (sz_if h.right (by decide))
theorem One.sh (h : One x y F) {t : Rat} (ht : szQ t 12) : ShZ (oneF x y F) t ∧ szQ ((oneF x y F).shear t) 90 := by
  refine ⟨⟨h.rc, h.fold ht, sz2 sz0 ht (by decide), sz2 h.len ht (by decide), sz2 sz0 h.left (by decide), sz2 (sz_if h.left (by decide)) h.right (by decide), fun l1 p l2 e => ?_⟩, ?_⟩
  · obtain ⟨rfl, rfl⟩ := one_split e
    exact sz2 (h.sup t) h.sf (by decide)
  · rw [shear_acc, one_pts]
    by_cases c : x ≤ t
    · rw [if_pos c]
      show szQ ((oneF x y F).sup t + -F) 90
      have e : (oneF x y F).sup t + -F = (oneF x y F).sup t - F := by grind
      rw [e]
      exact ((h.sup t).sub h.sf).mono (by decide)
    · rw [if_neg c]
      exact (h.sup t).mono (k := 63) (by decide)
theorem One.supM (h : One x y F) {t : Rat} (ht : szQ t 12) : szQ ((oneF x y F).supM t) 101 :=
  (sz_if (h.left.mul (ht.sub sz0)) (by decide)).add (sz_if (h.right.mul (ht.sub h.len)) (by decide))
theorem One.mo (h : One x y F) {t : Rat} (ht : szQ t 12) : MoZ (oneF x y F) t ∧ szQ ((oneF x y F).moment t) 140 := by
  refine ⟨⟨h.rc, h.fold ht, sz2 sz0 ht (by decide), sz2 h.len ht (by decide), sz2 ht sz0 (by decide), sz2 ht h.len (by decide), sz2 h.left (ht.sub sz0) (by decide), sz2 h.right (ht.sub h.len) (by decide), sz2 sz0 (h.left.mul (ht.sub sz0)) (by decide), sz2 (sz_if (h.left.mul (ht.sub sz0)) (by decide)) (h.right.mul (ht.sub h.len)) (by decide), fun l1 p l2 e => ?_⟩, ?_⟩
  · obtain ⟨rfl, rfl⟩ := one_split e
    exact ⟨sz2 ht h.sx (by decide), sz2 h.sf (ht.sub h.sx) (by decide), sz2 (h.supM ht) (h.sf.mul (ht.sub h.sx)) (by decide)⟩
  · rw [moment_acc, one_pts]
    by_cases c : x ≤ t
    · rw [if_pos c]
      show szQ ((oneF x y F).supM t + -(F * (t - x))) 140
      have e : (oneF x y F).supM t + -(F * (t - x)) = (oneF x y F).supM t - F * (t - x) := by grind
      rw [e]
      exact ((h.supM ht).sub (h.sf.mul (ht.sub h.sx))).mono (by decide)
    · rw [if_neg c]
      exact (h.supM ht).mono (k := 101) (by decide)
theorem one_zeros (x y F : Rat) : ∀ l : List Rat, (oneF x y F).zeros l = []
  | [] => rfl
  | [p] => rfl
  | p :: q :: l => by
    have e : (oneF x y F).zero1 p q = [] := if_pos rfl
    show (oneF x y F).zero1 p q ++ (oneF x y F).zeros (q :: l) = []
    rw [e, one_zeros x y F (q :: l)]; rfl
theorem One.ch (h : One x y F) {p : Rat} (hp : p ∈ chS (oneF x y F) 0) : szQ p 12 := by
  have hp : p ∈ [0, x + y, 0, x + y, x] := hp
  simp only [List.mem_cons, List.not_mem_nil, or_false] at hp
  rcases hp with rfl | rfl | rfl | rfl | rfl
  · exact sz0.mono (by decide)
  · exact h.len.mono (by decide)
  · exact sz0.mono (by decide)
  · exact h.len.mono (by decide)
  · exact h.sx.mono (by decide)
theorem One.of (h : One x y F) : OfZ (oneF x y F) := by
  refine ⟨(show 4 + 1 + 2 * 0 ≤ 12 by decide), fun p hp => h.sh (h.ch (mem_chS hp)), fun p hp => (h.ch hp).mono (by decide), fun s hs => absurd hs List.not_mem_nil, fun p q j => ?_⟩
  have e : (oneF x y F).ss.take j = [] := List.take_nil
  rw [e]
  exact sz0.mono (by decide)
theorem One.gr (h : One x y F) : GrZ (oneF x y F) := by
  have h2 : (oneF x y F).chg.length ≤ 5 := by
    have := compQ_len (sortQ (chS (oneF x y F) (oneF x y F).ss.length))
    rw [← chS_all, sortQ_len, chS_len] at this
    exact this
  refine ⟨h.chk, h.of, fun t ht => ?_, by rw [one_zeros, List.append_nil]; omega⟩
  rw [one_zeros, List.append_nil] at ht
  have hz := h.ch (mem_chS ht)
  exact ⟨(h.mo hz).1, hz.mono (by decide), (h.mo hz).2⟩
end
end Go.Proofs.YtddadjbflgdomaaGreatDoor
namespace Go.Proofs.YtddadjbflgdomaaGreatDoor
open Go Go.RowKit Go.Am Go.Lib
set_option maxRecDepth 10000
-- BOXES 3
-- CODE2
theorem whole1_gives (z : Int) (hz : -9223372036854775808 ≤ z ∧ z ≤ 9223372036854775807) (W : World) (ht : TabP W) :
    CallsR Tryz.prog 16 #[.int .i64 z] W (fun _ : Unit => str (numS (z : Rat))) (fun _ => True) (fun _ => []) := by
  refine calls_enter (args := [.int .i64 z]) Tryz.func16 rfl rfl rfl ?_
  refine zA ?_
  refine zB ?_
  refine wl_pure Tryz.hT rfl rfl rfl ?_
  refine wl_nil ?_
  refine zE ?_
  refine zA ?_
  refine zB ?_
  refine wl_pure Tryz.hT rfl rfl rfl ?_
  refine wl_call1 rfl rfl rfl rfl rfl rfl (by kernel_rfl) (fun W hp => (rof_gives z 1 hz (by decide) W (ht.hp hp)).cast (by rw [ofR_one])) ?_
  iterate 5 refine wl_pure Tryz.hT rfl rfl rfl ?_
  refine wl_nil ?_
  refine zE ?_
  refine zA ?_
  refine zB ?_
  iterate 2 refine wl_pure Tryz.hT rfl rfl rfl ?_
  refine wl_nil ?_
  refine zE ?_
  refine zO ?_
  exact ne_ret1 Tryz.hT rfl (.tmp rfl) () rfl trivial fun W _ => NewBx.nil _ _
theorem nat_bn {c : Nat} (h : c ≤ 1000) : BnQ ((c : Int) : Rat) ∧ szQ ((c : Int) : Rat) 5 := by
  refine ⟨⟨?_, ?_⟩, szQ_int ?_ (by decide)⟩
  · rw [Rat.num_intCast, Int.natAbs_natCast]; exact Nat.lt_of_le_of_lt h (by decide)
  · rw [Rat.den_intCast]; decide
  · rw [Int.natAbs_natCast]; exact Nat.lt_of_le_of_lt h (by decide)
theorem nat_pos {c : Nat} (h : 0 < c) : (0 : Rat) < ((c : Int) : Rat) := by
  have : ((0 : Int) : Rat) < ((c : Int) : Rat) := Rat.intCast_lt_intCast.2 (by omega)
  exact this
set_option maxHeartbeats 16000000 in
theorem single_gives (a c d : Nat) (ha : a < 256) (hc : c < 256) (hd : d < 256) (W : World) (hv : MaxP W) (ht : TabP W) :
    CallsR Tryz.prog 4 #[.int .u8 (a : Nat), .int .u8 (c : Nat), .int .u8 (d : Nat)] W (fun _ : Unit => .bool true) (fun _ => True) (fun _ => []) := by
  obtain ⟨x, hx⟩ : ∃ x, x = a % 50 + 1 := ⟨_, rfl⟩
  obtain ⟨y, hy⟩ : ∃ y, y = c % 50 + 1 := ⟨_, rfl⟩
  obtain ⟨f, hf⟩ : ∃ f, f = d + 1 := ⟨_, rfl⟩
  have x1 : 1 ≤ x ∧ x ≤ 50 := by omega
  have y1 : 1 ≤ y ∧ y ≤ 50 := by omega
  have f1 : 1 ≤ f ∧ f ≤ 256 := by omega
  obtain ⟨X, hX⟩ : ∃ X : Rat, X = ((x : Int) : Rat) := ⟨_, rfl⟩
  obtain ⟨Y, hY⟩ : ∃ Y : Rat, Y = ((y : Int) : Rat) := ⟨_, rfl⟩
  obtain ⟨F, hF⟩ : ∃ F : Rat, F = ((f : Int) : Rat) := ⟨_, rfl⟩
  have hXY : (((x + y : Nat) : Int) : Rat) = X + Y := by
    rw [hX, hY, ← Rat.intCast_add]; congr 1
  have h : One X Y F := by
    obtain ⟨b1, s1⟩ := nat_bn (c := x) (by omega)
    obtain ⟨b2, s2⟩ := nat_bn (c := y) (by omega)
    obtain ⟨b3, s3⟩ := nat_bn (c := f) (by omega)
    obtain ⟨b4, _⟩ := nat_bn (c := x + y) (by omega)
    rw [hXY] at b4
    exact ⟨hX ▸ b1, b4, hF ▸ b3, hX ▸ s1, hY ▸ s2, hF ▸ s3, hX ▸ nat_pos x1.1, hY ▸ nat_pos y1.1⟩
  obtain ⟨law1, law2⟩ := single_law h.x0 h.y0 (F := F) (hF ▸ nat_pos f1.1)
  have hC := h.chk
  have pX : PlQ (oneF X Y F) X := ⟨h.sx.mono (by decide), Rat.le_of_lt h.x0, h.le⟩
  have mX := (h.mo (h.sx.mono (by decide))).1
  have want : nrm ((f * x * y : Nat) : Int) ((x + y : Nat) : Int) = F * X * Y / (X + Y) := by
    rw [nrm_div _ (by omega), Rat.divInt_eq_div, hXY, hF, hX, hY, ← Rat.intCast_mul, ← Rat.intCast_mul]
    rfl
  have bnd : f * x * y ≤ 256 * 50 * 50 := Nat.mul_le_mul (Nat.mul_le_mul f1.2 x1.2) y1.2
  have bnd1 : f * x ≤ 256 * 50 := Nat.mul_le_mul f1.2 x1.2
  have wh : ∀ (k : Nat) (q : Rat), k ≤ 1000 → ((k : Int) : Rat) = q → ∀ W, TabP W → CallsR Tryz.prog 16 #[.int .i64 (k : Nat)] W (fun _ : Unit => str (numS q)) (fun _ => True) (fun _ => []) := fun k q hk e W ht => by
    rw [← e]; exact whole1_gives (k : Nat) (by omega) W ht
  refine calls_enter (args := [.int .u8 (a : Nat), .int .u8 (c : Nat), .int .u8 (d : Nat)]) Tryz.func4 rfl rfl rfl ?_
  refine zA ?_
  refine zB ?_
  refine wl_pure Tryz.hT rfl rfl rfl ?_
  refine wl_nil ?_
  refine zE ?_
  refine zA ?_
  refine zB ?_
  refine wl_pure Tryz.hT rfl rfl rfl ?_
  refine wl_cvA Tryz.underlying5 Tryz.underlying3 rfl rfl rfl rfl ?_
  refine wl_upd 20 (.int .i64 (a : Nat)) rfl (congrArg (Value.int .i64) (w64_nat (by omega))) ?_
  refine wl_rem rfl rfl rfl rfl rfl (by decide) ?_
  refine wl_upd 21 (.int .i64 ((a % 50 : Nat) : Int)) rfl (congrArg (Value.int .i64) (by rw [Int.tmod_eq_emod_of_nonneg (by omega)]; omega)) ?_
  refine wl_pure Tryz.hT rfl rfl rfl ?_
  refine wl_upd 22 (.int .i64 (x : Nat)) rfl (congrArg (Value.int .i64) (by show w64 (((a % 50 : Nat) : Int) + 1) = _; rw [w64_id (by omega) (by omega)]; omega)) ?_
  refine wl_pure Tryz.hT rfl rfl rfl ?_
  refine wl_cvA Tryz.underlying5 Tryz.underlying3 rfl rfl rfl rfl ?_
  refine wl_upd 24 (.int .i64 (c : Nat)) rfl (congrArg (Value.int .i64) (w64_nat (by omega))) ?_
  refine wl_rem rfl rfl rfl rfl rfl (by decide) ?_
  refine wl_upd 25 (.int .i64 ((c % 50 : Nat) : Int)) rfl (congrArg (Value.int .i64) (by rw [Int.tmod_eq_emod_of_nonneg (by omega)]; omega)) ?_
  refine wl_pure Tryz.hT rfl rfl rfl ?_
  refine wl_upd 26 (.int .i64 (y : Nat)) rfl (congrArg (Value.int .i64) (by show w64 (((c % 50 : Nat) : Int) + 1) = _; rw [w64_id (by omega) (by omega)]; omega)) ?_
  refine wl_pure Tryz.hT rfl rfl rfl ?_
  refine wl_cvA Tryz.underlying5 Tryz.underlying3 rfl rfl rfl rfl ?_
  refine wl_upd 28 (.int .i64 (d : Nat)) rfl (congrArg (Value.int .i64) (w64_nat (by omega))) ?_
  refine wl_pure Tryz.hT rfl rfl rfl ?_
  refine wl_upd 29 (.int .i64 (f : Nat)) rfl (congrArg (Value.int .i64) (by show w64 (((d : Nat) : Int) + 1) = _; rw [w64_id (by omega) (by omega)]; omega)) ?_
  iterate 3 refine wl_pure Tryz.hT rfl rfl rfl ?_
  refine wl_nil ?_
  refine zE ?_
  refine zA ?_
  refine zB ?_
  refine wl_pure Tryz.hT rfl rfl rfl ?_
  refine wl_nil ?_
  refine zE ?_
  refine zA ?_
  refine zB ?_
  iterate 4 refine wl_pure Tryz.hT rfl rfl rfl ?_
  refine wl_upd 33 (.int .i64 ((x + y : Nat) : Int)) rfl (congrArg (Value.int .i64) (show w64 ((x : Nat) + (y : Nat)) = _ by rw [w64_id (by omega) (by omega)]; omega)) ?_
  refine wl_call1 (capt := []) rfl rfl rfl rfl rfl rfl (by kernel_rfl) (fun W1 hp => wh (x + y) (X + Y) (by omega) hXY W1 (ht.hp hp)) ?_
  iterate 4 refine wl_pure Tryz.hT rfl rfl rfl ?_
  refine wl_upd 38 (.int .i64 ((x + y : Nat) : Int)) rfl (congrArg (Value.int .i64) (show w64 ((x : Nat) + (y : Nat)) = _ by rw [w64_id (by omega) (by omega)]; omega)) ?_
  refine wl_call1 (capt := []) rfl rfl rfl rfl rfl rfl (by kernel_rfl) (fun W1 hp => wh (x + y) (X + Y) (by omega) hXY W1 (ht.hp hp)) ?_
  iterate 2 refine wl_pure Tryz.hT rfl rfl rfl ?_
  refine wl_call1 (capt := []) rfl rfl rfl rfl rfl rfl (by kernel_rfl) (fun W1 hp => wh x X (by omega) hX.symm W1 (ht.hp hp)) ?_
  iterate 2 refine wl_pure Tryz.hT rfl rfl rfl ?_
  refine wl_call1 (capt := []) rfl rfl rfl rfl rfl rfl (by kernel_rfl) (fun W1 hp => wh f F (by omega) hF.symm W1 (ht.hp hp)) ?_
  refine wl_buildZ Tryz.hZ Tryz.hT rfl rfl rfl rfl rfl rfl rfl rfl ?_
  (refine wl_buildRowZ Tryz.hZ Tryz.hT rfl rfl rfl rfl rfl rfl rfl rfl rfl rfl rfl ?_; intro)
  refine wl_buildZ Tryz.hZ Tryz.hT rfl rfl rfl rfl rfl rfl rfl rfl ?_
  (refine wl_allocZ Tryz.hZ rfl rfl rfl rfl ?_; intro)
  refine wl_storeBx 1 Tryz.hT rfl rfl rfl rfl rfl rfl rfl rfl rfl rfl rfl ?_
  refine wl_nil ?_
  rename_i bF b11
  refine ne_bx (bxs' := [⟨bF, 46, [str (numS X), str (numS F)], true, none⟩, bmB b11 (oneF X Y F) (some ⟨bF, 0, none⟩) 1 none 0]) (by
    show [_, (⟨b11, 31, [str (numS (X + Y)), str [48], str (numS (X + Y)), .slice (some ⟨bF, 0, none⟩) 1 1, .slice none 0 0], true, none⟩ : Bx)] = [_, (⟨b11, 31, [str (numS (X + Y)), str (numS 0), str (numS (X + Y)), .slice (some ⟨bF, 0, none⟩) 1 1, .slice none 0 0], true, none⟩ : Bx)]
    rw [numS_zero]
    rfl) ?_
  have hM : ∀ {W1 : World}, Hp W [⟨bF, 46, [str (numS X), str (numS F)], true, none⟩, bmB b11 (oneF X Y F) (some ⟨bF, 0, none⟩) 1 none 0] W1 → BmM W1 (oneF X Y F) (some ⟨bF, 0, none⟩) none := fun hp => by
    refine ⟨.inr ⟨bF, 0, rfl, fun i hi => ?_⟩, .inl rfl, hv.hp hp, ht.hp hp⟩
    have hi : i < 1 := hi
    obtain rfl : i = 0 := by omega
    exact RowAt.of_bx hp 0 rfl rfl
  refine zE ?_
  refine zA ?_
  refine zB ?_
  refine wl_loadBx 1 Tryz.hT rfl rfl rfl rfl rfl rfl rfl rfl ?_
  refine wl_call1 rfl rfl rfl rfl rfl rfl (by kernel_rfl) (fun W1 hp => (bGreatest_gives (oneF X Y F) h.gr (some ⟨bF, 0, none⟩) none 1 0 W1 (hM hp)).cast (by rw [law1, law2])) ?_
  iterate 7 refine wl_pure Tryz.hT rfl rfl rfl ?_
  refine wl_nil ?_
  refine zE ?_
  refine zA ?_
  refine zB ?_
  iterate 3 refine wl_pure Tryz.hT rfl rfl rfl ?_
  refine wl_upd 58 (.int .i64 ((f * x : Nat) : Int)) rfl (congrArg (Value.int .i64) (show w64 ((f : Nat) * (x : Nat)) = _ by rw [← Int.natCast_mul, w64_id (by omega) (by omega)])) ?_
  iterate 2 refine wl_pure Tryz.hT rfl rfl rfl ?_
  refine wl_upd 60 (.int .i64 ((f * x * y : Nat) : Int)) rfl (congrArg (Value.int .i64) (show w64 ((f * x : Nat) * (y : Nat)) = _ by rw [← Int.natCast_mul, w64_id (by omega) (by omega)])) ?_
  iterate 3 refine wl_pure Tryz.hT rfl rfl rfl ?_
  refine wl_upd 63 (.int .i64 ((x + y : Nat) : Int)) rfl (congrArg (Value.int .i64) (show w64 ((x : Nat) + (y : Nat)) = _ by rw [w64_id (by omega) (by omega)]; omega)) ?_
  refine wl_call1 rfl rfl rfl rfl rfl rfl (by kernel_rfl) (fun W1 hp => (rof_gives ((f * x * y : Nat) : Int) ((x + y : Nat) : Int) (by omega) (by omega) W1 (ht.hp hp)).cast (by rw [ofR, if_neg (by omega), want])) ?_
  iterate 5 refine wl_pure Tryz.hT rfl rfl rfl ?_
  refine wl_nil ?_
  refine zE ?_
  refine zA ?_
  refine zT Tryz.mixed (by kernel_rfl) ?_
  refine wq_loadBx 1 Tryz.hT rfl rfl rfl rfl rfl rfl rfl rfl ?_
  iterate 2 refine wq_pure Tryz.hT rfl rfl rfl ?_
  refine wq_call1 (capt := []) rfl rfl rfl rfl rfl rfl (by kernel_rfl) (fun W1 hp => wh x X (by omega) hX.symm W1 (ht.hp hp)) ?_
  refine wq_call1 rfl rfl rfl rfl rfl rfl (by kernel_rfl) (fun W1 hp => (bMoment_gives (oneF X Y F) hC X pX mX (some ⟨bF, 0, none⟩) none 1 0 W1 (hM hp)).cast (by rw [law2])) ?_
  iterate 5 refine wq_pure Tryz.hT rfl rfl rfl ?_
  refine wq_nil ?_
  refine wl_nil ?_
  refine zE ?_
  refine zA ?_
  refine zB ?_
  iterate 9 refine wl_pure Tryz.hT rfl rfl rfl ?_
  refine wl_upd 83 (.bool true) rfl (congrArg Value.bool (strEqL _ _ rfl)) ?_
  iterate 5 refine wl_pure Tryz.hT rfl rfl rfl ?_
  refine wl_upd 88 (.bool true) rfl (congrArg Value.bool (strEqL _ _ rfl)) ?_
  iterate 5 refine wl_pure Tryz.hT rfl rfl rfl ?_
  refine wl_call1 (capt := []) rfl rfl rfl rfl rfl rfl (by kernel_rfl) (fun W1 hp => wh x X (by omega) hX.symm W1 (ht.hp hp)) ?_
  refine wl_pure Tryz.hT rfl rfl rfl ?_
  refine wl_upd 95 (.bool true) rfl (congrArg Value.bool (strEqL _ _ rfl)) ?_
  iterate 2 refine wl_pure Tryz.hT rfl rfl rfl ?_
  refine wl_call1 rfl rfl rfl rfl rfl rfl (by kernel_rfl) (fun W1 hp => awakeB_gives W1 (hv.hp hp) (ht.hp hp)) ?_
  iterate 2 refine wl_pure Tryz.hT rfl rfl rfl ?_
  refine wl_nil ?_
  refine zE ?_
  refine zO ?_
  exact ne_ret1 Tryz.hT rfl (.tmp rfl) () rfl trivial fun W _ => NewBx.nil _ _
end Go.Proofs.YtddadjbflgdomaaGreatDoor
