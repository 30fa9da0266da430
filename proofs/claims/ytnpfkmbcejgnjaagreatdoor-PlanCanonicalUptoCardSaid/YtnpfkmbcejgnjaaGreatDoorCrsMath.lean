/-
  Plain facts: crossed, told by pairs of sides; a ring is a closed line; when a plan is refused.
-/
import Derived.Test.YtnpfkmbcejgnjaaGreatDoorRotMath
import Derived.Test.YtnpfkmbcejgnjaaGreatDoorJordan
namespace Go.Proofs.YtnpfkmbcejgnjaaGreatDoor
open Go Go.RowKit Go.Am
theorem at_ex_up {rs : List (List Sd)} {m : Nat} : ∀ k, k ≤ rs.length → m < tot (rs.take k) → ∃ r i, r < k ∧ i < (rg rs r).length ∧ m = tot (rs.take r) + i
  | 0, _, h => by simp [tot] at h
  | k + 1, hk, h => by
    rw [tot_take_succ (by omega)] at h
    by_cases e : m < tot (rs.take k)
    · obtain ⟨r, i, h1, h2, h3⟩ := at_ex_up k (by omega) e
      exact ⟨r, i, by omega, h2, h3⟩
    · exact ⟨k, m - tot (rs.take k), by omega, by omega, by omega⟩
theorem at_ex {rs : List (List Sd)} {m : Nat} (h : m < tot rs) : ∃ r i, r < rs.length ∧ i < (rg rs r).length ∧ m = tot (rs.take r) + i := at_ex_up rs.length (Nat.le_refl _) (by rw [List.take_length]; exact h)
theorem nxt_val {n k : Nat} (h : k < n) : nxt n k = if k + 1 = n then 0 else k + 1 := by
  unfold nxt
  split
  · rename_i e; rw [e, Nat.mod_self]
  · exact Nat.mod_eq_of_lt (by omega)
theorem prv_val {n k : Nat} (h : k < n) : prv n k = if k = 0 then n - 1 else k - 1 := by
  unfold prv
  split
  · rename_i e; subst e; rw [Nat.zero_add]; exact Nat.mod_eq_of_lt (by omega)
  · rw [show k + n - 1 = k - 1 + n by omega, Nat.add_mod_right]; exact Nat.mod_eq_of_lt (by omega)
theorem prv_nxt {n k : Nat} (h : k < n) : prv n (nxt n k) = k := by
  rw [prv_val (nxt_lt h), nxt_val h]; split <;> split <;> omega
theorem nb_iff {n r a b : Nat} (hb : b < a) (ha : a < n) : nbB n (r, a) (r, b) = true ↔ (a = nxt n b ∨ b = nxt n a) := by
  unfold nbB
  rw [nxt_val ha, nxt_val (show b < n by omega)]
  simp only [beq_self_eq_true, Bool.true_and, Bool.or_eq_true, beq_iff_eq]
  split <;> split <;> omega
/-- Two sides of a plan are neighbours, or the same. -/
def near (rs : List (List Sd)) (r i s k : Nat) : Prop := r = s ∧ (i = k ∨ i = nxt (rg rs r).length k ∨ k = nxt (rg rs r).length i)
theorem crs_iff (rs : List (List Sd)) : crs rs = false ↔ ∀ r i s k, r < rs.length → i < (rg rs r).length → s < rs.length → k < (rg rs s).length → ¬ near rs r i s k → meetB (bsd rs (r, i)) (esd rs (r, i)) (bsd rs (s, k)) (esd rs (s, k)) = false := by
  constructor
  · intro h r i s k hr hi hs hk hn
    by_cases e : r = s
    rotate_left
    · exact crs_apart h hr hi hs hk e
    subst e
    have one : ∀ {a b : Nat}, a < (rg rs r).length → b < a → ¬ (a = nxt (rg rs r).length b ∨ b = nxt (rg rs r).length a) → meetB (bsd rs (r, a)) (esd rs (r, a)) (bsd rs (r, b)) (esd rs (r, b)) = false := by
      intro a b ha hb hab
      have hj := tot_at hr ha
      have h2 : crossP rs (pl rs (tot (rs.take r) + a)) (pl rs (tot (rs.take r) + b)) = false := by
        cases he : crossP rs (pl rs (tot (rs.take r) + a)) (pl rs (tot (rs.take r) + b)) with
        | false => rfl
        | true =>
          have : crs rs = true := List.any_eq_true.2 ⟨_, List.mem_range.2 hj, List.any_eq_true.2 ⟨_, List.mem_range.2 (by omega), he⟩⟩
          rw [h] at this; cases this
      rw [pl_at hr ha, pl_at hr (by omega)] at h2
      unfold crossP at h2
      have h3 : nbB (rg rs r).length (r, a) (r, b) = false := Bool.eq_false_iff.2 fun e => hab ((nb_iff hb ha).1 e)
      rw [h3] at h2
      simpa using h2
    rcases Nat.lt_trichotomy i k with hlt | heq | hgt
    · rw [meet_comm]
      exact one hk hlt fun h => hn ⟨rfl, by omega⟩
    · exact absurd ⟨rfl, .inl heq⟩ hn
    · exact one hi hgt fun h => hn ⟨rfl, by omega⟩
  · intro h
    unfold crs
    refine any_range_false fun m hm => any_range_false fun j hj => ?_
    obtain ⟨r, i, hr, hi, rfl⟩ := at_ex hm
    obtain ⟨s, k, hs, hk, rfl⟩ := at_ex (show j < tot rs by omega)
    rw [pl_at hr hi, pl_at hs hk]
    unfold crossP
    cases hb : nbB (rg rs r).length (r, i) (s, k) with
    | true => rfl
    | false =>
      simp only [Bool.not_false, Bool.true_and]
      refine h r i s k hr hi hs hk fun hn => ?_
      obtain ⟨rfl, hn⟩ := hn
      have hik : k < i := by omega
      have := (nb_iff (r := r) hik hi).2 (by omega)
      rw [hb] at this; cases this
theorem meet_on {t u t' u' : Sd} {px py : Int} (h : meetB t u t' u' = false) (h1 : (t.x ≤ px ∨ u.x ≤ px) ∧ (px ≤ t.x ∨ px ≤ u.x) ∧ (t.y ≤ py ∨ u.y ≤ py) ∧ (py ≤ t.y ∨ py ≤ u.y))
    (h2 : (t'.x ≤ px ∨ u'.x ≤ px) ∧ (px ≤ t'.x ∨ px ≤ u'.x) ∧ (t'.y ≤ py ∨ u'.y ≤ py) ∧ (py ≤ t'.y ∨ py ≤ u'.y)) : False := by
  have e : meetB t u t' u' = true := by
    unfold meetB lox hix loy hiy
    simp only [Bool.and_eq_true, decide_eq_true_eq]
    refine ⟨⟨⟨?_, ?_⟩, ?_⟩, ?_⟩ <;> split <;> split <;> omega
  rw [h] at e; cases e
/-- A ring of a valid plan is a closed line. -/
theorem ring_net {rs : List (List Sd)} (hin : allR rs) (hs : ∀ l ∈ rs, shp l = true) (hc : crs rs = false) {r : Nat} (hr : r < rs.length) : Net (rg rs r).length (nxt (rg rs r).length) (fun k => (sd (rg rs r) k).x) (fun k => (sd (rg rs r) k).y) := by
  have hm : rg rs r ∈ rs := List.mem_of_getElem? (rg_get hr)
  refine ⟨fun k hk => nxt_lt hk, fun f => sumTo_nxt f _, fun k hk => ?_, fun k hk => ?_, fun j k hj hk px py h1 h2 => ?_⟩
  · have := (shp_side (hin _ hm) (hs _ hm) hk).1
    omega
  · have h1 := (shp_side (hin _ hm) (hs _ hm) hk).1
    have h2 := (shp_side (hin _ hm) (hs _ hm) (nxt_lt hk))
    rw [prv_nxt hk] at h2
    omega
  · refine Classical.byContradiction fun hn => ?_
    have h := (crs_iff rs).1 hc r j r k hr hj hr hk fun h => hn (by obtain ⟨_, h⟩ := h; omega)
    exact meet_on h h1 h2
/-- The inside of a ring: on the left of all its sides, or on the right of all. -/
theorem ring_one {rs : List (List Sd)} (hin : allR rs) (hs : ∀ l ∈ rs, shp l = true) (hc : crs rs = false) {r : Nat} (hr : r < rs.length) :
    ∃ L : Int, (L = 0 ∨ L = 1) ∧ (∀ k, k < (rg rs r).length → Lv (rg rs r).length (nxt (rg rs r).length) (fun k => (sd (rg rs r) k).x) (fun k => (sd (rg rs r) k).y) k L) ∧
      (∀ x y, Wn (rg rs r).length (nxt (rg rs r).length) (fun k => (sd (rg rs r) k).x) (fun k => (sd (rg rs r) k).y) x y = 0 ∨ Wn (rg rs r).length (nxt (rg rs r).length) (fun k => (sd (rg rs r) k).x) (fun k => (sd (rg rs r) k).y) x y = 2 * L - 1) ∧
      0 < (2 * L - 1) * sumTo (crossAt (rg rs r)) (rg rs r).length := by
  have hm : rg rs r ∈ rs := List.mem_of_getElem? (rg_get hr)
  have N := ring_net hin hs hc hr
  have h4 := shp_len (hs _ hm)
  obtain ⟨L, h01, hL, hv⟩ := N.one (by omega)
  refine ⟨L, h01, hL, hv, ?_⟩
  have hi : ∀ k, k < (rg rs r).length → inR (sd (rg rs r) k) := fun k hk => sd_inR (hin _ hm) hk
  exact N.area_one (M := 65536) (by omega) (fun k hk => ⟨(hi k hk).1, (hi k hk).2.1⟩) (fun k hk => ⟨(hi k hk).2.2.1, (hi k hk).2.2.2⟩) h01 hL hv
theorem area_ne {rs : List (List Sd)} (hin : allR rs) (hs : ∀ l ∈ rs, shp l = true) (hc : crs rs = false) {r : Nat} (hr : r < rs.length) : sumTo (crossAt (rg rs r)) (rg rs r).length ≠ 0 := by
  obtain ⟨L, _, _, _, h⟩ := ring_one hin hs hc hr
  intro e
  rw [e, Int.mul_zero] at h
  exact absurd h (by decide)
/-- When a plan is refused with ErrPlan. -/
theorem chk_14 {rs : List (List Sd)} (h0 : ∀ l ∈ rs, l ≠ []) (h1 : tot rs ≠ 0) (h2 : tot rs ≤ 24) (h3 : rs.flatten.any (fun s => !rgd s) = false) (h : (∃ l ∈ rs, shp l = false) ∨ (crs rs = false ∧ (plc rs = false ∨ jnd rs = false))) : chk rs = 14 := by
  unfold chk
  rw [if_neg, if_neg h1, if_neg (by omega), if_neg (by rw [h3]; decide)]
  · rcases h with ⟨l, hl, hs⟩ | ⟨hc, hp⟩
    · rw [if_pos (List.any_eq_true.2 ⟨l, hl, by rw [hs]; rfl⟩)]
    · split
      · rfl
      · rw [if_neg (by rw [hc]; decide), if_pos]
        rcases hp with h | h <;> rw [h]
        · rfl
        · cases plc rs <;> rfl
  · intro h
    obtain ⟨l, hl, h⟩ := List.any_eq_true.1 h
    rw [beq_iff_eq] at h
    exact h0 l hl (List.length_eq_zero_iff.1 h)
/-! ### One ring set anew -/
theorem rg_set {rs : List (List Sd)} {r : Nat} (hr : r < rs.length) (l : List Sd) (k : Nat) : rg (rs.set r l) k = if k = r then l else rg rs k := by
  unfold rg
  rw [List.getD_eq_getElem?_getD, List.getD_eq_getElem?_getD]
  by_cases e : k = r
  · subst e; rw [if_pos rfl, List.getElem?_set_self hr]; rfl
  · rw [if_neg e, List.getElem?_set_ne (fun h => e h.symm)]
theorem mem_set {rs : List (List Sd)} {r : Nat} {l m : List Sd} (h : m ∈ rs.set r l) : m ∈ rs ∨ m = l := by
  rcases List.mem_or_eq_of_mem_set h with h | h
  · exact .inl h
  · exact .inr h
theorem self_set {rs : List (List Sd)} {r : Nat} (hr : r < rs.length) (l : List Sd) : l ∈ rs.set r l := List.mem_of_getElem? (List.getElem?_set_self hr)
theorem tot_set {rs : List (List Sd)} {r : Nat} (hr : r < rs.length) (l : List Sd) : tot (rs.set r l) + (rg rs r).length = tot rs + l.length := by
  induction rs generalizing r with
  | nil => simp at hr
  | cons x rs ih =>
    cases r with
    | zero =>
      show ((l :: rs).map _).sum + x.length = ((x :: rs).map _).sum + l.length
      rw [List.map_cons, List.map_cons, List.sum_cons, List.sum_cons]; omega
    | succ r =>
      have := ih (r := r) (by simpa using hr)
      unfold tot at this ⊢
      rw [List.set_cons_succ, List.map_cons, List.map_cons, List.sum_cons, List.sum_cons]
      show x.length + _ + (rg rs r).length = _
      omega
theorem rgd_set {rs : List (List Sd)} (h : ∀ l ∈ rs, ∀ s ∈ l, rgd s = true) {r : Nat} {l : List Sd} (hl : ∀ s ∈ l, rgd s = true) : (rs.set r l).flatten.any (fun s => !rgd s) = false := any_rgd_mk fun m hm s hs => by
  rcases mem_set hm with hm | rfl
  · exact h m hm s hs
  · exact hl s hs
/-- Crossed looks at corners alone. -/
theorem crs_same {rs rs' : List (List Sd)} (hl : rs'.length = rs.length) (hr : ∀ r, r < rs.length → (rg rs' r).length = (rg rs r).length) (hx : ∀ r i, r < rs.length → i < (rg rs r).length → (sd (rg rs' r) i).x = (sd (rg rs r) i).x ∧ (sd (rg rs' r) i).y = (sd (rg rs r) i).y) (h : crs rs = false) : crs rs' = false := by
  refine (crs_iff rs').2 fun r i s k h1 h2 h3 h4 hn => ?_
  rw [hl] at h1 h3
  rw [hr r h1] at h2
  rw [hr s h3] at h4
  have h5 := (crs_iff rs).1 h r i s k h1 h2 h3 h4 (fun e => hn (by unfold near at e ⊢; rw [hr r h1]; exact e))
  rw [← h5]
  obtain ⟨a1, a2⟩ := hx r i h1 h2
  obtain ⟨b1, b2⟩ := hx r _ h1 (nxt_lt h2)
  obtain ⟨c1, c2⟩ := hx s k h3 h4
  obtain ⟨d1, d2⟩ := hx s _ h3 (nxt_lt h4)
  unfold meetB lox hix loy hiy bsd esd
  simp only
  rw [hr r h1, hr s h3, a1, a2, b1, b2, c1, c2, d1, d2]
end Go.Proofs.YtnpfkmbcejgnjaaGreatDoor
