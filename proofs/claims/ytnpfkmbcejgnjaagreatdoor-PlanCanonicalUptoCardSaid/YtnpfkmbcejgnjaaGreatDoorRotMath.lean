/-
  Plain facts: what a quarter turn leaves.
-/
import Derived.Test.YtnpfkmbcejgnjaaGreatDoorShiftMath
namespace Go.Proofs.YtnpfkmbcejgnjaaGreatDoor
open Go Go.RowKit Go.Am
/-- A side after a quarter turn that keeps the range of coordinates. -/
def qt (s : Sd) : Sd := { s with x := 65536 - s.y, y := s.x }
def qtR (rs : List (List Sd)) : List (List Sd) := rs.map (·.map qt)
theorem nxt_prv {n k : Nat} (h : k < n) : nxt n (prv n k) = k := by
  unfold nxt prv
  cases k with
  | zero =>
    rw [Nat.zero_add, Nat.mod_eq_of_lt (show n - 1 < n by omega), show n - 1 + 1 = n by omega, Nat.mod_self]
  | succ k => rw [show k + 1 + n - 1 = k + n by omega, Nat.add_mod_right, Nat.mod_eq_of_lt (show k < n by omega), Nat.mod_eq_of_lt h]
theorem inR_q {s : Sd} (h : inR s) : inR (qt s) := by
  obtain ⟨h1, h2, h3, h4⟩ := h
  exact ⟨by show 0 ≤ 65536 - s.y; omega, by show 65536 - s.y ≤ 65536; omega, h1, h2⟩
theorem d64 {a b : Int} (h1 : 0 ≤ a ∧ a ≤ 65536) (h2 : 0 ≤ b ∧ b ≤ 65536) : w64 (a - b) = a - b := w64_id (by omega) (by omega)
theorem shp_side {l : List Sd} (hr : ∀ s ∈ l, inR s) (h : shp l = true) {i : Nat} (hi : i < l.length) :
    ¬ (((sd l (nxt l.length i)).x - (sd l i).x = 0) ↔ ((sd l (nxt l.length i)).y - (sd l i).y = 0)) ∧ ¬ (((sd l i).x - (sd l (prv l.length i)).x = 0) ↔ ((sd l (nxt l.length i)).x - (sd l i).x = 0)) := by
  unfold shp at h
  obtain ⟨_, h⟩ := Bool.and_eq_true_iff.1 h
  have h1 := List.all_eq_true.1 h i (List.mem_range.2 hi)
  obtain ⟨s1, s2, s3, s4⟩ := sd_inR hr hi
  obtain ⟨n1, n2, n3, n4⟩ := sd_inR hr (nxt_lt hi)
  obtain ⟨p1, p2, p3, p4⟩ := sd_inR hr (prv_lt hi)
  unfold okSide okAt at h1
  rw [d64 ⟨n1, n2⟩ ⟨s1, s2⟩, d64 ⟨n3, n4⟩ ⟨s3, s4⟩, d64 ⟨s1, s2⟩ ⟨p1, p2⟩] at h1
  obtain ⟨h2, h3⟩ := Bool.and_eq_true_iff.1 h1
  refine ⟨fun e => ?_, fun e => ?_⟩
  · have : (((sd l (nxt l.length i)).x - (sd l i).x == 0) == ((sd l (nxt l.length i)).y - (sd l i).y == 0)) = true := by rw [beq_iff_eq, Bool.eq_iff_iff, beq_iff_eq, beq_iff_eq]; exact e
    rw [this] at h2; cases h2
  · have : (((sd l i).x - (sd l (prv l.length i)).x == 0) == ((sd l (nxt l.length i)).x - (sd l i).x == 0)) = true := by rw [beq_iff_eq, Bool.eq_iff_iff, beq_iff_eq, beq_iff_eq]; exact e
    rw [this] at h3; cases h3
theorem shp_len {l : List Sd} (h : shp l = true) : 4 ≤ l.length := by
  unfold shp at h
  exact of_decide_eq_true (Bool.and_eq_true_iff.1 h).1
theorem shp_mk {l : List Sd} (hr : ∀ s ∈ l, inR s) (h4 : 4 ≤ l.length)
    (h : ∀ i, i < l.length → ¬ (((sd l (nxt l.length i)).x - (sd l i).x = 0) ↔ ((sd l (nxt l.length i)).y - (sd l i).y = 0)) ∧ ¬ (((sd l i).x - (sd l (prv l.length i)).x = 0) ↔ ((sd l (nxt l.length i)).x - (sd l i).x = 0))) : shp l = true := by
  unfold shp
  rw [decide_eq_true h4, Bool.true_and, List.all_eq_true]
  intro i hi
  have hi := List.mem_range.1 hi
  obtain ⟨h1, h2⟩ := h i hi
  obtain ⟨s1, s2, s3, s4⟩ := sd_inR hr hi
  obtain ⟨n1, n2, n3, n4⟩ := sd_inR hr (nxt_lt hi)
  obtain ⟨p1, p2, p3, p4⟩ := sd_inR hr (prv_lt hi)
  unfold okSide okAt
  rw [d64 ⟨n1, n2⟩ ⟨s1, s2⟩, d64 ⟨n3, n4⟩ ⟨s3, s4⟩, d64 ⟨s1, s2⟩ ⟨p1, p2⟩]
  have e1 : (((sd l (nxt l.length i)).x - (sd l i).x == 0) == ((sd l (nxt l.length i)).y - (sd l i).y == 0)) = false := by
    rw [Bool.eq_false_iff]; intro e; rw [beq_iff_eq, Bool.eq_iff_iff, beq_iff_eq, beq_iff_eq] at e; exact h1 e
  have e2 : (((sd l i).x - (sd l (prv l.length i)).x == 0) == ((sd l (nxt l.length i)).x - (sd l i).x == 0)) = false := by
    rw [Bool.eq_false_iff]; intro e; rw [beq_iff_eq, Bool.eq_iff_iff, beq_iff_eq, beq_iff_eq] at e; exact h2 e
  rw [e1, e2]; rfl
theorem mem_q {l : List Sd} (hr : ∀ s ∈ l, inR s) : ∀ s ∈ l.map qt, inR s := fun s hs => by
  obtain ⟨t, ht, rfl⟩ := List.mem_map.1 hs
  exact inR_q (hr t ht)
theorem shp_q {l : List Sd} (hr : ∀ s ∈ l, inR s) (h : shp l = true) : shp (l.map qt) = true := by
  refine shp_mk (mem_q hr) (by rw [List.length_map]; exact shp_len h) fun i hi => ?_
  rw [List.length_map] at hi ⊢
  rw [sd_map hi, sd_map (nxt_lt hi), sd_map (prv_lt hi)]
  obtain ⟨h1, h2⟩ := shp_side hr h hi
  obtain ⟨h3, _⟩ := shp_side hr h (prv_lt hi)
  rw [nxt_prv hi] at h3
  show ¬ ((65536 - (sd l (nxt l.length i)).y - (65536 - (sd l i).y) = 0) ↔ ((sd l (nxt l.length i)).x - (sd l i).x = 0)) ∧ ¬ ((65536 - (sd l i).y - (65536 - (sd l (prv l.length i)).y) = 0) ↔ (65536 - (sd l (nxt l.length i)).y - (65536 - (sd l i).y) = 0))
  omega
theorem mulB {a b : Int} (h1 : -65536 ≤ a ∧ a ≤ 65536) (h2 : -65536 ≤ b ∧ b ≤ 65536) : -4294967296 ≤ a * b ∧ a * b ≤ 4294967296 := by
  have h : (a * b).natAbs ≤ 65536 * 65536 := by
    rw [Int.natAbs_mul]
    exact Nat.mul_le_mul (by omega) (by omega)
  omega
theorem leftB_eq {s t u : Sd} (hs : inR s) (ht : inR t) (hu : inR u) : leftB s t u = decide ((t.x - s.x) * (u.y - t.y) - (t.y - s.y) * (u.x - t.x) > 0) := by
  obtain ⟨s1, s2, s3, s4⟩ := hs
  obtain ⟨t1, t2, t3, t4⟩ := ht
  obtain ⟨u1, u2, u3, u4⟩ := hu
  unfold leftB
  rw [d64 ⟨t1, t2⟩ ⟨s1, s2⟩, d64 ⟨u3, u4⟩ ⟨t3, t4⟩, d64 ⟨t3, t4⟩ ⟨s3, s4⟩, d64 ⟨u1, u2⟩ ⟨t1, t2⟩]
  have m1 := mulB (a := t.x - s.x) (b := u.y - t.y) (by omega) (by omega)
  have m2 := mulB (a := t.y - s.y) (b := u.x - t.x) (by omega) (by omega)
  rw [w64_id (x := (t.x - s.x) * _) (by omega) (by omega), w64_id (x := (t.y - s.y) * _) (by omega) (by omega), w64_id (by omega) (by omega)]
theorem left_q {s t u : Sd} (hs : inR s) (ht : inR t) (hu : inR u) : leftB (qt s) (qt t) (qt u) = leftB s t u := by
  rw [leftB_eq hs ht hu, leftB_eq (inR_q hs) (inR_q ht) (inR_q hu)]
  show decide ((65536 - t.y - (65536 - s.y)) * (u.x - t.x) - (t.x - s.x) * (65536 - u.y - (65536 - t.y)) > 0) = _
  rw [show 65536 - t.y - (65536 - s.y) = -(t.y - s.y) by omega, show 65536 - u.y - (65536 - t.y) = -(u.y - t.y) by omega, Int.neg_mul, Int.mul_neg]
  congr 1
  apply propext
  omega
theorem joinRing_q {l : List Sd} (hr : ∀ s ∈ l, inR s) : joinRing (l.map qt) = joinRing l := by
  unfold joinRing
  rw [List.length_map]
  refine all_congr fun i hi => ?_
  unfold joinSide
  rw [List.length_map, sd_map hi, sd_map (prv_lt hi), sd_map (nxt_lt hi)]
  unfold joinB
  rw [left_q (sd_inR hr (prv_lt hi)) (sd_inR hr hi) (sd_inR hr (nxt_lt hi))]; rfl
theorem someUp_f {f : Sd → Sd} (hf : ∀ s, (f s).gable = s.gable) (l : List Sd) (b : Bool) : ∀ k, k ≤ l.length → someUp (l.map f) b k = someUp l b k
  | 0, _ => rfl
  | k + 1, h => by
    show (someUp (l.map f) b k || !(sd (l.map f) k).gable) = (someUp l b k || !(sd l k).gable)
    rw [someUp_f hf l b k (by omega), sd_map (by omega), hf]
theorem someRs_f {f : Sd → Sd} (hf : ∀ s, (f s).gable = s.gable) (rs : List (List Sd)) : ∀ k, someRs (rs.map (·.map f)) k = someRs rs k
  | 0 => rfl
  | k + 1 => by
    show someUp (rg (rs.map (·.map f)) k) (someRs (rs.map (·.map f)) k) (rg (rs.map (·.map f)) k).length = someUp (rg rs k) (someRs rs k) (rg rs k).length
    rw [map_len, rg_map, someUp_f hf _ _ _ (Nat.le_refl _), someRs_f hf rs k]
theorem jnd_q {rs : List (List Sd)} (hr : allR rs) : jnd (qtR rs) = jnd rs := by
  unfold jnd
  rw [show someRs (qtR rs) = someRs rs from funext fun k => someRs_f (f := qt) (fun _ => rfl) rs k, show (qtR rs).length = rs.length by simp [qtR]]
  congr 1
  unfold qtR
  rw [Bool.eq_iff_iff, List.all_eq_true, List.all_eq_true]
  constructor
  · intro h l hl
    rw [← joinRing_q (hr l hl)]
    exact h _ (List.mem_map.2 ⟨l, hl, rfl⟩)
  · intro h m hm
    obtain ⟨l, hl, rfl⟩ := List.mem_map.1 hm
    rw [joinRing_q (hr l hl)]; exact h l hl
theorem meet_q (t u t' u' : Sd) : meetB (qt t) (qt u) (qt t') (qt u') = meetB t u t' u' := by
  have l1 : ∀ a b : Sd, lox (qt a) (qt b) = 65536 - hiy a b := fun a b => by unfold lox hiy qt; simp only; split <;> split <;> omega
  have l2 : ∀ a b : Sd, hix (qt a) (qt b) = 65536 - loy a b := fun a b => by unfold hix loy qt; simp only; split <;> split <;> omega
  have l3 : ∀ a b : Sd, loy (qt a) (qt b) = lox a b := fun a b => rfl
  have l4 : ∀ a b : Sd, hiy (qt a) (qt b) = hix a b := fun a b => rfl
  unfold meetB
  rw [l1, l1, l2, l2, l3, l3, l4, l4, Bool.eq_iff_iff]
  simp only [Bool.and_eq_true, decide_eq_true_eq]
  omega
theorem crs_q (rs : List (List Sd)) : crs (qtR rs) = crs rs := by
  have ep : ∀ i, pl (qtR rs) i = pl rs i := fun i => by
    unfold pl
    rw [show (qtR rs).length = rs.length by simp [qtR]]
    unfold qtR
    rw [plsUp_map]
  unfold crs
  rw [show tot (qtR rs) = tot rs from tot_map _ rs]
  refine any_congr fun i hi => any_congr fun k hk => ?_
  rw [ep, ep]
  obtain ⟨_, h2⟩ := pl_mem hi
  obtain ⟨_, h4⟩ := pl_mem (show k < tot rs by omega)
  unfold crossP bsd esd qtR
  rw [rg_map, rg_map, List.length_map, List.length_map, sd_map h2, sd_map (nxt_lt h2), sd_map h4, sd_map (nxt_lt h4), meet_q]
theorem crossSum_q (l : List Sd) : sumTo (crossAt (l.map qt)) l.length = sumTo (crossAt l) l.length := by
  have e : sumTo (crossAt (l.map qt)) l.length = sumTo (fun i => crossAt l i + 65536 * ((sd l (nxt l.length i)).x + (-1) * (sd l i).x)) l.length := by
    refine sumTo_congr _ fun i hi => ?_
    unfold crossAt
    rw [List.length_map, sd_map hi, sd_map (nxt_lt hi)]
    unfold qt
    simp only
    generalize (sd l i).x = a
    generalize (sd l i).y = b
    generalize (sd l (nxt l.length i)).x = c
    generalize (sd l (nxt l.length i)).y = d
    simp only [Int.sub_mul, Int.mul_sub]
    omega
  rw [e, sumTo_add, sumTo_mul, sumTo_add, sumTo_mul, sumTo_nxt (fun i => (sd l i).x)]
  omega
theorem area_q {l : List Sd} (h1 : ∀ s ∈ l, inR s) (hl : l.length ≤ 1000000) : areaUp (l.map qt) l.length = areaUp l l.length := by
  obtain ⟨e1, _⟩ := areaUp_eq h1 l.length (Nat.le_refl _) hl
  obtain ⟨e2, _⟩ := areaUp_eq (l := l.map qt) (mem_q h1) l.length (by rw [List.length_map]; exact Nat.le_refl _) hl
  rw [e1, e2, crossSum_q]
/-! ### A point inside a ring: to the right as upwards -/
def xorTo (f : Nat → Bool) : Nat → Bool
  | 0 => false
  | k + 1 => xor (xorTo f k) (f k)
theorem xorTo_congr {f g : Nat → Bool} : ∀ (n : Nat), (∀ i, i < n → f i = g i) → xorTo f n = xorTo g n
  | 0, _ => rfl
  | n + 1, h => by
    show xor (xorTo f n) (f n) = xor (xorTo g n) (g n)
    rw [xorTo_congr n (fun i hi => h i (by omega)), h n (by omega)]
theorem xorTo_xor (f g : Nat → Bool) : ∀ n, xorTo (fun i => xor (f i) (g i)) n = xor (xorTo f n) (xorTo g n)
  | 0 => rfl
  | n + 1 => by
    show xor (xorTo _ n) (xor (f n) (g n)) = xor (xor (xorTo f n) (f n)) (xor (xorTo g n) (g n))
    rw [xorTo_xor f g n]
    cases xorTo f n <;> cases xorTo g n <;> cases f n <;> cases g n <;> rfl
theorem xorTo_succ (g : Nat → Bool) : ∀ n, xor (xorTo (fun i => g (i + 1)) n) (g 0) = xorTo g (n + 1)
  | 0 => by show xor false (g 0) = xor false (g 0); rfl
  | n + 1 => by
    have ih := xorTo_succ g n
    show xor (xor (xorTo (fun i => g (i + 1)) n) (g (n + 1))) (g 0) = xor (xorTo g (n + 1)) (g (n + 1))
    rw [← ih]
    cases xorTo (fun i => g (i + 1)) n <;> cases g (n + 1) <;> cases g 0 <;> rfl
theorem xorTo_nxt (g : Nat → Bool) (n : Nat) : xorTo (fun i => g (nxt n i)) n = xorTo g n := by
  cases n with
  | zero => rfl
  | succ m =>
    rw [← xorTo_succ g m]
    show xor (xorTo (fun i => g (nxt (m + 1) i)) m) (g (nxt (m + 1) m)) = _
    have h0 : nxt (m + 1) m = 0 := Nat.mod_self _
    rw [h0, xorTo_congr m (fun i hi => by rw [show nxt (m + 1) i = i + 1 from Nat.mod_eq_of_lt (by omega)])]
theorem insUp_xor (l : List Sd) (px py : Int) : ∀ k, insUp l px py k = xorTo (fun i => passB (sd l i) (sd l (nxt l.length i)) px py) k
  | 0 => rfl
  | k + 1 => by
    show (if passB (sd l k) (sd l (nxt l.length k)) px py = true then !insUp l px py k else insUp l px py k) = xor (xorTo _ k) (passB (sd l k) (sd l (nxt l.length k)) px py)
    rw [insUp_xor l px py k]
    cases passB (sd l k) (sd l (nxt l.length k)) px py <;> cases xorTo _ k <;> rfl
/-- The function of a corner whose changes count both kinds of crossings. -/
def hB (px py : Int) (s : Sd) : Bool := decide (s.x > px) && !decide (s.y > py)
/-- A point lies on a side. -/
def onB (t u : Sd) (px py : Int) : Prop := lox t u ≤ px ∧ px ≤ hix t u ∧ loy t u ≤ py ∧ py ≤ hiy t u
theorem pass_q {t u : Sd} {px py : Int} (ht : inR t) (hu : inR u) (hx : ¬ ((u.x - t.x = 0) ↔ (u.y - t.y = 0))) (hon : ¬ onB t u px py) :
    xor (passB t u px py) (passB (qt t) (qt u) (65536 - py) px) = xor (hB px py t) (hB px py u) := by
  obtain ⟨t1, t2, t3, t4⟩ := ht
  obtain ⟨u1, u2, u3, u4⟩ := hu
  unfold passB hB qt
  simp only
  rw [d64 ⟨u1, u2⟩ ⟨t1, t2⟩, show 65536 - u.y - (65536 - t.y) = t.y - u.y by omega, d64 ⟨t3, t4⟩ ⟨u3, u4⟩]
  unfold onB lox hix loy hiy at hon
  have e1 : (65536 - t.y > 65536 - py) ↔ (t.y < py) := by omega
  have e2 : decide (65536 - t.y > 65536 - py) = decide (t.y < py) := decide_eq_decide.2 e1
  rw [e2]
  by_cases a1 : u.x - t.x = 0
  · have a2 : ¬ (u.y - t.y = 0) := fun h => hx ⟨fun _ => h, fun _ => a1⟩
    have a3 : ¬ (t.y - u.y = 0) := by omega
    have a4 : u.x = t.x := by omega
    rw [beq_iff_eq.2 a1, beq_eq_false_iff_ne.2 a3, a4]
    cases decide (t.x > px) <;> cases decide (t.y > py) <;> cases decide (u.y > py) <;> rfl
  · have a2 : u.y - t.y = 0 := Classical.byContradiction fun h => hx ⟨fun h' => absurd h' a1, fun h' => absurd h' h⟩
    have a3 : t.y - u.y = 0 := by omega
    have a4 : u.y = t.y := by omega
    rw [beq_eq_false_iff_ne.2 a1, beq_iff_eq.2 a3, a4]
    by_cases b1 : t.x > px <;> by_cases b2 : u.x > px <;> by_cases b3 : t.y > py <;> by_cases b4 : t.y < py
    all_goals first
      | (exfalso; omega)
      | simp only [b1, b2, b3, b4, decide_true, decide_false]; rfl
      | (exfalso; refine hon ⟨?_, ?_, ?_, ?_⟩ <;> split <;> omega)
theorem ins_q {l : List Sd} {px py : Int} (hr : ∀ s ∈ l, inR s) (hs : shp l = true) (hon : ∀ k, k < l.length → ¬ onB (sd l k) (sd l (nxt l.length k)) px py) :
    insUp (l.map qt) (65536 - py) px l.length = insUp l px py l.length := by
  have h : xor (insUp l px py l.length) (insUp (l.map qt) (65536 - py) px l.length) = false := by
    rw [insUp_xor, insUp_xor, ← xorTo_xor, List.length_map,
      xorTo_congr (g := fun i => xor (hB px py (sd l i)) (hB px py (sd l (nxt l.length i)))) l.length (fun i hi => by
        rw [sd_map hi, sd_map (nxt_lt hi)]
        exact pass_q (sd_inR hr hi) (sd_inR hr (nxt_lt hi)) (shp_side hr hs hi).1 (hon i hi)),
      xorTo_xor, xorTo_nxt (fun i => hB px py (sd l i))]
    cases xorTo (fun i => hB px py (sd l i)) l.length <;> rfl
  cases h1 : insUp l px py l.length <;> cases h2 : insUp (l.map qt) (65536 - py) px l.length <;> rw [h1, h2] at h <;> first | rfl | cases h
/-! ### Sides of two rings have no common point -/
theorem plsUp_pre (rs : List (List Sd)) (m : Nat) : ∀ d, ∃ t, plsUp rs (m + d) = plsUp rs m ++ t
  | 0 => ⟨[], by simp⟩
  | d + 1 => by
    obtain ⟨t, h⟩ := plsUp_pre rs m d
    refine ⟨t ++ prow (m + d) (rg rs (m + d)).length, ?_⟩
    show plsUp rs (m + d) ++ prow (m + d) (rg rs (m + d)).length = _
    rw [h, List.append_assoc]
theorem pl_at {rs : List (List Sd)} {r i : Nat} (hr : r < rs.length) (hi : i < (rg rs r).length) : pl rs (tot (rs.take r) + i) = (r, i) := by
  obtain ⟨t, h⟩ := plsUp_pre rs (r + 1) (rs.length - (r + 1))
  rw [show r + 1 + (rs.length - (r + 1)) = rs.length by omega] at h
  have h2 : plsUp rs (r + 1) = plsUp rs r ++ prow r (rg rs r).length := rfl
  have hlen := plsUp_len rs r (by omega)
  unfold pl
  rw [List.getD_eq_getElem?_getD, h, h2, List.append_assoc, List.getElem?_append_right (by omega), hlen, Nat.add_sub_cancel_left, List.getElem?_append_left (by simp [prow]; exact hi)]
  simp [prow, hi]
theorem tot_at {rs : List (List Sd)} {r i : Nat} (hr : r < rs.length) (hi : i < (rg rs r).length) : tot (rs.take r) + i < tot rs := by
  have h1 := tot_take_succ hr
  have h2 := tot_take_le rs (r + 1)
  omega
theorem meet_comm (t u t' u' : Sd) : meetB t u t' u' = meetB t' u' t u := by
  unfold meetB
  rw [Bool.eq_iff_iff]
  simp only [Bool.and_eq_true, decide_eq_true_eq]
  omega
theorem crs_apart {rs : List (List Sd)} (h : crs rs = false) {r i s k : Nat} (hr : r < rs.length) (hi : i < (rg rs r).length) (hs : s < rs.length) (hk : k < (rg rs s).length) (hne : r ≠ s) :
    meetB (bsd rs (r, i)) (esd rs (r, i)) (bsd rs (s, k)) (esd rs (s, k)) = false := by
  have one : ∀ {a b : Nat × Nat} {j j' : Nat}, pl rs j = a → pl rs j' = b → j < tot rs → j' < j → a.1 ≠ b.1 → meetB (bsd rs a) (esd rs a) (bsd rs b) (esd rs b) = false := by
    intro a b j j' ha hb hj hj' hab
    have h1 : ((List.range j).any fun k => crossP rs (pl rs j) (pl rs k)) = false := by
      cases he : ((List.range j).any fun k => crossP rs (pl rs j) (pl rs k)) with
      | false => rfl
      | true =>
        have : crs rs = true := List.any_eq_true.2 ⟨j, List.mem_range.2 hj, he⟩
        rw [h] at this; cases this
    have h2 : crossP rs (pl rs j) (pl rs j') = false := by
      cases he : crossP rs (pl rs j) (pl rs j') with
      | false => rfl
      | true =>
        have : ((List.range j).any fun k => crossP rs (pl rs j) (pl rs k)) = true := List.any_eq_true.2 ⟨j', List.mem_range.2 hj', he⟩
        rw [h1] at this; cases this
    rw [ha, hb] at h2
    unfold crossP nbB at h2
    rw [beq_eq_false_iff_ne.2 hab] at h2
    simpa using h2
  have hj := tot_at hr hi
  have hj' := tot_at hs hk
  rcases Nat.lt_trichotomy (tot (rs.take s) + k) (tot (rs.take r) + i) with hlt | heq | hgt
  · exact one (pl_at hr hi) (pl_at hs hk) hj hlt hne
  · have h1 := pl_at hr hi
    rw [← heq, pl_at hs hk] at h1
    exact absurd (congrArg Prod.fst h1).symm hne
  · rw [meet_comm]
    exact one (pl_at hs hk) (pl_at hr hi) hj' hgt (fun e => hne e.symm)
theorem crs_off {rs : List (List Sd)} (h : crs rs = false) {r s k : Nat} (hr : r < rs.length) (hpos : 0 < (rg rs r).length) (hs : s < rs.length) (hk : k < (rg rs s).length) (hne : r ≠ s) :
    ¬ onB (sd (rg rs s) k) (sd (rg rs s) (nxt (rg rs s).length k)) (sd (rg rs r) 0).x (sd (rg rs r) 0).y := by
  intro hon
  have h1 := crs_apart h hr hpos hs hk hne
  have h2 : meetB (bsd rs (r, 0)) (esd rs (r, 0)) (bsd rs (s, k)) (esd rs (s, k)) = true := by
    unfold meetB
    obtain ⟨o1, o2, o3, o4⟩ := hon
    have q1 : lox (bsd rs (r, 0)) (esd rs (r, 0)) ≤ (sd (rg rs r) 0).x := by unfold lox bsd esd; simp only; split <;> omega
    have q2 : (sd (rg rs r) 0).x ≤ hix (bsd rs (r, 0)) (esd rs (r, 0)) := by unfold hix bsd esd; simp only; split <;> omega
    have q3 : loy (bsd rs (r, 0)) (esd rs (r, 0)) ≤ (sd (rg rs r) 0).y := by unfold loy bsd esd; simp only; split <;> omega
    have q4 : (sd (rg rs r) 0).y ≤ hiy (bsd rs (r, 0)) (esd rs (r, 0)) := by unfold hiy bsd esd; simp only; split <;> omega
    have p1 : lox (bsd rs (s, k)) (esd rs (s, k)) ≤ (sd (rg rs r) 0).x := o1
    have p2 : (sd (rg rs r) 0).x ≤ hix (bsd rs (s, k)) (esd rs (s, k)) := o2
    have p3 : loy (bsd rs (s, k)) (esd rs (s, k)) ≤ (sd (rg rs r) 0).y := o3
    have p4 : (sd (rg rs r) 0).y ≤ hiy (bsd rs (s, k)) (esd rs (s, k)) := o4
    rw [decide_eq_true (show lox (bsd rs (r, 0)) (esd rs (r, 0)) ≤ hix (bsd rs (s, k)) (esd rs (s, k)) by omega), decide_eq_true (show lox (bsd rs (s, k)) (esd rs (s, k)) ≤ hix (bsd rs (r, 0)) (esd rs (r, 0)) by omega),
      decide_eq_true (show loy (bsd rs (r, 0)) (esd rs (r, 0)) ≤ hiy (bsd rs (s, k)) (esd rs (s, k)) by omega), decide_eq_true (show loy (bsd rs (s, k)) (esd rs (s, k)) ≤ hiy (bsd rs (r, 0)) (esd rs (r, 0)) by omega)]
    rfl
  rw [h1] at h2; cases h2
theorem plc_q {rs : List (List Sd)} (h1 : allR rs) (hs : ∀ l ∈ rs, shp l = true) (hc : crs rs = false) (hl : tot rs ≤ 1000000) (hne : ∀ l ∈ rs, l ≠ []) : plc (qtR rs) = plc rs := by
  have hlen : (qtR rs).length = rs.length := by simp [qtR]
  have hrg : ∀ k, rg (qtR rs) k = (rg rs k).map qt := fun k => rg_map _ rs k
  unfold plc
  rw [hlen]
  refine all_congr fun i hi => ?_
  have hmem : rg rs i ∈ rs := List.mem_of_getElem? (rg_get hi)
  have hpos : 0 < (rg rs i).length := List.length_pos_iff.2 (hne _ hmem)
  unfold placeRing
  have hA : areaUp (rg (qtR rs) i) (rg (qtR rs) i).length = areaUp (rg rs i) (rg rs i).length := by
    rw [hrg, List.length_map]
    exact area_q (h1 _ hmem) (by have := len_le_tot hmem; omega)
  rw [hA, hlen]
  congr 1
  refine all_congr fun k hk => ?_
  unfold placeK
  by_cases e : k = i
  · subst e; rw [beq_self_eq_true, Bool.true_or, Bool.true_or, Bool.true_or]
  · have hmk : rg rs k ∈ rs := List.mem_of_getElem? (rg_get hk)
    rw [hrg, hrg, List.length_map, sd_map hpos]
    show ((k == i || i == 0) || (insUp ((rg rs k).map qt) (65536 - (sd (rg rs i) 0).y) (sd (rg rs i) 0).x (rg rs k).length == (k == 0))) = _
    rw [ins_q (h1 _ hmk) (hs _ hmk) fun j hj => crs_off hc hi hpos hk hj (fun h => e h.symm)]
theorem rgd_q {s : Sd} (h : rgd s = true) : rgd (qt s) = true := by
  obtain ⟨h1, h2, h3, h4⟩ := rgd_inR h
  unfold rgd at h ⊢
  simp only [Bool.and_eq_true, btw, decide_eq_true_eq] at h ⊢
  exact ⟨h.1, ⟨⟨⟨by show 0 ≤ 65536 - s.y; omega, by show 65536 - s.y ≤ 65536; omega⟩, ⟨h1, h2⟩⟩, h.2.1.2⟩, h.2.2⟩
theorem any_rgd_mk {rs : List (List Sd)} (h : ∀ l ∈ rs, ∀ s ∈ l, rgd s = true) : rs.flatten.any (fun s => !rgd s) = false := Bool.eq_false_iff.2 fun h2 => by
  obtain ⟨s, hs, h2⟩ := List.any_eq_true.1 h2
  obtain ⟨l, hl, hs⟩ := List.mem_flatten.1 hs
  rw [h l hl s hs] at h2; cases h2
theorem chk_q {rs : List (List Sd)} (h : chk rs = 0) : chk (qtR rs) = 0 := by
  obtain ⟨hr, hs, hc, hp, hj⟩ := chk_parts h
  obtain ⟨hne, h24, h0⟩ := chk_ne h
  have hR : allR rs := fun l hl s hx => rgd_inR (hr l hl s hx)
  have ht : tot (qtR rs) = tot rs := tot_map _ rs
  refine chk_zero (fun l hl => ?_) (by rw [ht]; exact h0) (by rw [ht]; exact h24) (any_rgd_mk fun l hl s hx => ?_) (fun l hl => ?_) (by rw [crs_q]; exact hc) ?_ (by rw [jnd_q hR]; exact hj)
  · obtain ⟨m, hm, rfl⟩ := List.mem_map.1 hl
    exact fun e => hne m hm (List.map_eq_nil_iff.1 e)
  · obtain ⟨m, hm, rfl⟩ := List.mem_map.1 hl
    obtain ⟨t, ht, rfl⟩ := List.mem_map.1 hx
    exact rgd_q (hr m hm t ht)
  · obtain ⟨m, hm, rfl⟩ := List.mem_map.1 hl
    exact shp_q (hR m hm) (hs m hm)
  · rw [plc_q hR hs hc (by omega) hne]; exact hp
theorem sumA_q {rs : List (List Sd)} (h1 : allR rs) (hl : tot rs ≤ 1000000) : ∀ k, k ≤ rs.length → sumA (qtR rs) k = sumA rs k
  | 0, _ => rfl
  | k + 1, hk => by
    have hmem : rg rs k ∈ rs := List.mem_of_getElem? (rg_get (by omega))
    show w64 (sumA (qtR rs) k + areaUp (rg (qtR rs) k) (rg (qtR rs) k).length) = w64 (sumA rs k + areaUp (rg rs k) (rg rs k).length)
    rw [sumA_q h1 hl k (by omega), show rg (qtR rs) k = (rg rs k).map qt from rg_map _ rs k, List.length_map,
      area_q (h1 _ hmem) (by have := len_le_tot hmem; omega)]
theorem areaN_q {rs : List (List Sd)} (h1 : allR rs) (hl : tot rs ≤ 1000000) : areaN (qtR rs) = areaN rs := by
  unfold areaN
  rw [show (qtR rs).length = rs.length by simp [qtR], sumA_q h1 hl _ (Nat.le_refl _)]
theorem lefq_q {rs : List (List Sd)} (h1 : allR rs) {q : Nat × Nat} (hq1 : q.1 < rs.length) (hq2 : q.2 < (rg rs q.1).length) : lefq (qtR rs) q = lefq rs q := by
  have hmem : rg rs q.1 ∈ rs := List.mem_of_getElem? (rg_get hq1)
  unfold lefq
  rw [show rg (qtR rs) q.1 = (rg rs q.1).map qt from rg_map _ rs q.1, List.length_map, sd_map hq2, sd_map (prv_lt hq2), sd_map (nxt_lt hq2)]
  exact left_q (sd_inR (h1 _ hmem) (prv_lt hq2)) (sd_inR (h1 _ hmem) hq2) (sd_inR (h1 _ hmem) (nxt_lt hq2))
theorem lefq_tr (dx dy : Int) {rs : List (List Sd)} {q : Nat × Nat} (hq2 : q.2 < (rg rs q.1).length) : lefq (trR dx dy rs) q = lefq rs q := by
  unfold lefq
  rw [show rg (trR dx dy rs) q.1 = (rg rs q.1).map (tr dx dy) from rg_map _ rs q.1, List.length_map, sd_map hq2, sd_map (prv_lt hq2), sd_map (nxt_lt hq2)]
  exact left_tr _ _ _ _ _
end Go.Proofs.YtnpfkmbcejgnjaaGreatDoor
