/-
  Plain facts: turns add up.
-/
import Derived.Test.YtnpfkmbcejgnjaaGreatDoorRotMath
import Derived.Test.YtnpfkmbcejgnjaaGreatDoorRotate
namespace Go.Proofs.YtnpfkmbcejgnjaaGreatDoor
open Go Go.RowKit Go.Am
def qN : Nat → List (List Sd) → List (List Sd)
  | 0, rs => rs
  | n + 1, rs => qtR (qN n rs)
theorem flat_map (f : Sd → Sd) (rs : List (List Sd)) : (rs.map (·.map f)).flatten = rs.flatten.map f := by rw [List.map_flatten]
theorem lst_fold_tr (a b : Int) : ∀ (l : List Sd) (q : Int × Int), (l.map (tr a b)).foldl lstF (q.1 + a, q.2 + b) = ((l.foldl lstF q).1 + a, (l.foldl lstF q).2 + b)
  | [], _ => rfl
  | s :: l, q => by
    show (l.map (tr a b)).foldl lstF (lstF (q.1 + a, q.2 + b) (tr a b s)) = _
    have e : lstF (q.1 + a, q.2 + b) (tr a b s) = ((lstF q s).1 + a, (lstF q s).2 + b) := by
      unfold lstF tr
      simp only
      congr 1 <;> split <;> split <;> omega
    rw [e, lst_fold_tr a b l]; rfl
theorem lst_tr (a b : Int) {l : List Sd} (h : 0 < l.length) : lstL (l.map (tr a b)) = ((lstL l).1 + a, (lstL l).2 + b) := by
  unfold lstL
  rw [sd_map h]
  exact lst_fold_tr a b l ((sd l 0).x, (sd l 0).y)
theorem lst_fold_le : ∀ (l : List Sd) (q : Int × Int), (l.foldl lstF q).1 ≤ q.1 ∧ (l.foldl lstF q).2 ≤ q.2 ∧ (∀ s ∈ l, (l.foldl lstF q).1 ≤ s.x ∧ (l.foldl lstF q).2 ≤ s.y) ∧
    ((l.foldl lstF q).1 = q.1 ∨ ∃ s ∈ l, (l.foldl lstF q).1 = s.x) ∧ ((l.foldl lstF q).2 = q.2 ∨ ∃ s ∈ l, (l.foldl lstF q).2 = s.y)
  | [], q => ⟨Int.le_refl _, Int.le_refl _, (fun s hs => by cases hs), .inl rfl, .inl rfl⟩
  | s :: l, q => by
    obtain ⟨h1, h2, h3, h4, h5⟩ := lst_fold_le l (lstF q s)
    have e : (s :: l).foldl lstF q = l.foldl lstF (lstF q s) := rfl
    have f1 : (lstF q s).1 = if s.x < q.1 then s.x else q.1 := rfl
    have f2 : (lstF q s).2 = if s.y < q.2 then s.y else q.2 := rfl
    rw [e]
    refine ⟨by rw [f1] at h1; split at h1 <;> omega, by rw [f2] at h2; split at h2 <;> omega, fun t ht => ?_, ?_, ?_⟩
    · rcases List.mem_cons.1 ht with rfl | ht
      · exact ⟨by rw [f1] at h1; split at h1 <;> omega, by rw [f2] at h2; split at h2 <;> omega⟩
      · exact h3 t ht
    · rcases h4 with h4 | ⟨t, ht, h4⟩
      · rw [f1] at h4
        split at h4
        · exact .inr ⟨s, .head _, h4⟩
        · exact .inl h4
      · exact .inr ⟨t, .tail _ ht, h4⟩
    · rcases h5 with h5 | ⟨t, ht, h5⟩
      · rw [f2] at h5
        split at h5
        · exact .inr ⟨s, .head _, h5⟩
        · exact .inl h5
      · exact .inr ⟨t, .tail _ ht, h5⟩
/-- The least coordinates are of sides, and no side lies below. -/
theorem lst_least {l : List Sd} (h : 0 < l.length) : (∀ s ∈ l, (lstL l).1 ≤ s.x ∧ (lstL l).2 ≤ s.y) ∧ (∃ s ∈ l, (lstL l).1 = s.x) ∧ ∃ s ∈ l, (lstL l).2 = s.y := by
  obtain ⟨_, _, h3, h4, h5⟩ := lst_fold_le l ((sd l 0).x, (sd l 0).y)
  have hm : sd l 0 ∈ l := List.mem_of_getElem? (sd_get h)
  refine ⟨h3, ?_, ?_⟩
  · rcases h4 with h4 | h4
    · exact ⟨_, hm, h4⟩
    · exact h4
  · rcases h5 with h5 | h5
    · exact ⟨_, hm, h5⟩
    · exact h5
theorem tr_tr (a b c d : Int) (rs : List (List Sd)) : trR a b (trR c d rs) = trR (c + a) (d + b) rs := by
  unfold trR
  rw [List.map_map]
  apply List.map_congr_left
  intro l _
  show (l.map (tr c d)).map (tr a b) = _
  rw [List.map_map]
  apply List.map_congr_left
  intro s _
  show tr a b (tr c d s) = _
  unfold tr
  simp only
  rw [Int.add_assoc, Int.add_assoc]
theorem q_tr (a b : Int) (rs : List (List Sd)) : qtR (trR a b rs) = trR (-b) a (qtR rs) := by
  unfold trR qtR
  rw [List.map_map, List.map_map]
  apply List.map_congr_left
  intro l _
  show (l.map (tr a b)).map qt = (l.map qt).map (tr (-b) a)
  rw [List.map_map, List.map_map]
  apply List.map_congr_left
  intro s _
  show qt (tr a b s) = tr (-b) a (qt s)
  unfold tr qt
  simp only
  rw [show 65536 - (s.y + b) = 65536 - s.y + -b by omega]
theorem qN_tr (a b : Int) (rs : List (List Sd)) : ∀ n, ∃ c d, qN n (trR a b rs) = trR c d (qN n rs)
  | 0 => ⟨a, b, rfl⟩
  | n + 1 => by
    obtain ⟨c, d, h⟩ := qN_tr a b rs n
    exact ⟨-d, c, by show qtR (qN n (trR a b rs)) = _; rw [h, q_tr]; rfl⟩
theorem qN_add (m : Nat) (rs : List (List Sd)) : ∀ n, qN n (qN m rs) = qN (m + n) rs
  | 0 => rfl
  | n + 1 => by show qtR (qN n (qN m rs)) = qtR (qN (m + n) rs); rw [qN_add m rs n]
theorem map_id2 {f : Sd → Sd} (h : ∀ s, f s = s) (rs : List (List Sd)) : rs.map (·.map f) = rs := by
  have : (fun l : List Sd => l.map f) = id := funext fun l => by
    show l.map f = l
    rw [show f = id from funext h, List.map_id]
  rw [this, List.map_id]
theorem map_map2 (f g : Sd → Sd) (rs : List (List Sd)) : (rs.map (·.map f)).map (·.map g) = rs.map (·.map fun s => g (f s)) := by
  rw [List.map_map]
  apply List.map_congr_left
  intro l _
  show (l.map f).map g = _
  rw [List.map_map]; rfl
theorem qN_four (rs : List (List Sd)) : qN 4 rs = rs := by
  show ((((rs.map (·.map qt)).map (·.map qt)).map (·.map qt)).map (·.map qt)) = rs
  rw [map_map2, map_map2, map_map2]
  refine map_id2 (fun s => ?_) rs
  unfold qt
  cases s
  simp only [Sd.mk.injEq, and_true]
  omega
theorem trR_zero' (rs : List (List Sd)) : trR 0 0 rs = rs := map_id2 (fun s => by unfold tr; cases s; simp) rs
/-- A plan, turned, with the least coordinates that it had. -/
def rotT (n : Nat) (rs : List (List Sd)) : List (List Sd) := trR ((lstL rs.flatten).1 - (lstL (qN n rs).flatten).1) ((lstL rs.flatten).2 - (lstL (qN n rs).flatten).2) (qN n rs)
theorem qN_tot (rs : List (List Sd)) : ∀ n, tot (qN n rs) = tot rs
  | 0 => rfl
  | n + 1 => by show tot (qtR (qN n rs)) = _; rw [show tot (qtR (qN n rs)) = tot (qN n rs) from tot_map _ _, qN_tot rs n]
theorem qN_len (rs : List (List Sd)) : ∀ n, (qN n rs).length = rs.length
  | 0 => rfl
  | n + 1 => by show (qtR (qN n rs)).length = _; rw [show (qtR (qN n rs)).length = (qN n rs).length by simp [qtR], qN_len rs n]
theorem lst_trR (a b : Int) {rs : List (List Sd)} (h : tot rs ≠ 0) : lstL (trR a b rs).flatten = ((lstL rs.flatten).1 + a, (lstL rs.flatten).2 + b) := by
  unfold trR
  rw [flat_map]
  exact lst_tr a b (by rw [flat_len]; omega)
theorem lst_rotT {rs : List (List Sd)} (h : tot rs ≠ 0) (n : Nat) : lstL (rotT n rs).flatten = lstL rs.flatten := by
  unfold rotT
  rw [lst_trR _ _ (by rw [qN_tot]; exact h)]
  apply Prod.ext <;> simp only <;> omega
theorem rotT_add {rs : List (List Sd)} (h : tot rs ≠ 0) (n m : Nat) : rotT m (rotT n rs) = rotT (n + m) rs := by
  have e1 := lst_rotT h n
  obtain ⟨c, d, e2⟩ := qN_tr ((lstL rs.flatten).1 - (lstL (qN n rs).flatten).1) ((lstL rs.flatten).2 - (lstL (qN n rs).flatten).2) (qN n rs) m
  have e3 : qN m (rotT n rs) = trR c d (qN (n + m) rs) := by rw [← qN_add]; exact e2
  have e4 : rotT m (rotT n rs) = trR ((lstL (rotT n rs).flatten).1 - (lstL (qN m (rotT n rs)).flatten).1) ((lstL (rotT n rs).flatten).2 - (lstL (qN m (rotT n rs)).flatten).2) (qN m (rotT n rs)) := rfl
  rw [e4, e1, e3, lst_trR _ _ (by rw [qN_tot]; exact h), tr_tr]
  unfold rotT
  congr 1 <;> simp only <;> omega
theorem rotT_zero (rs : List (List Sd)) : rotT 0 rs = rs := by
  show trR ((lstL rs.flatten).1 - (lstL rs.flatten).1) ((lstL rs.flatten).2 - (lstL rs.flatten).2) rs = rs
  rw [Int.sub_self, Int.sub_self, trR_zero']
theorem rotT_four {rs : List (List Sd)} (n : Nat) : rotT (n + 4) rs = rotT n rs := by
  have : qN (n + 4) rs = qN n rs := by rw [Nat.add_comm, ← qN_add, qN_four]
  unfold rotT
  rw [this]
theorem rotT_mod (rs : List (List Sd)) : ∀ (k n : Nat), rotT (n + 4 * k) rs = rotT n rs
  | 0, n => by rw [Nat.mul_zero, Nat.add_zero]
  | k + 1, n => by rw [show n + 4 * (k + 1) = n + 4 * k + 4 by omega, rotT_four, rotT_mod rs k n]
theorem rotT_eq (rs : List (List Sd)) {m n : Nat} (h : m % 4 = n % 4) : rotT m rs = rotT n rs := by
  have h1 := rotT_mod rs (m / 4) (m % 4)
  have h2 := rotT_mod rs (n / 4) (n % 4)
  rw [Nat.mod_add_div] at h1 h2
  rw [h1, h2, h]
/-! ### What the program reckons -/
theorem qN_allR {rs : List (List Sd)} (h : allR rs) : ∀ n, allR (qN n rs)
  | 0 => h
  | n + 1 => fun l hl s hs => by
    obtain ⟨m, hm, rfl⟩ := List.mem_map.1 hl
    obtain ⟨t, ht, rfl⟩ := List.mem_map.1 hs
    exact inR_q (qN_allR h n m hm t ht)
theorem mvR_eq {f : Int → Int → Int × Int} {g : Sd → Sd} {rs : List (List Sd)} (h : ∀ l ∈ rs, ∀ s ∈ l, mvS f s = g s) : mvR f rs = rs.map (·.map g) := by
  unfold mvR
  apply List.map_congr_left
  intro l hl
  apply List.map_congr_left
  intro s hs
  exact h l hl s hs
theorem rotN_eq {rs : List (List Sd)} (h : allR rs) : ∀ n, ∃ a b, -65536 ≤ a ∧ a ≤ 0 ∧ -65536 ≤ b ∧ b ≤ 0 ∧ rotN n rs = trR a b (qN n rs)
  | 0 => ⟨0, 0, by decide, by decide, by decide, by decide, (trR_zero' rs).symm⟩
  | n + 1 => by
    obtain ⟨a, b, h1, h2, h3, h4, e⟩ := rotN_eq h n
    refine ⟨-65536 - b, a, by omega, by omega, by omega, by omega, ?_⟩
    show mvR rotF (rotN n rs) = trR (-65536 - b) a (qtR (qN n rs))
    rw [e]
    have h5 : mvR rotF (trR a b (qN n rs)) = (trR a b (qN n rs)).map (·.map fun s => { s with x := 0 - s.y, y := s.x }) := by
      refine mvR_eq fun l hl s hs => ?_
      obtain ⟨m, hm, rfl⟩ := List.mem_map.1 hl
      obtain ⟨t, ht, rfl⟩ := List.mem_map.1 hs
      obtain ⟨t1, t2, t3, t4⟩ := qN_allR h n m hm t ht
      show (⟨w64 (0 - (t.y + b)), t.x + a, t.rise, t.run, t.gable, t.plate, t.over⟩ : Sd) = ⟨0 - (t.y + b), t.x + a, t.rise, t.run, t.gable, t.plate, t.over⟩
      rw [w64_id (by omega) (by omega)]
    rw [h5]
    unfold trR qtR
    rw [List.map_map, List.map_map]
    apply List.map_congr_left
    intro l _
    show (l.map (tr a b)).map _ = (l.map qt).map _
    rw [List.map_map, List.map_map]
    apply List.map_congr_left
    intro s _
    show (⟨0 - (s.y + b), s.x + a, s.rise, s.run, s.gable, s.plate, s.over⟩ : Sd) = ⟨65536 - s.y + (-65536 - b), s.x + a, s.rise, s.run, s.gable, s.plate, s.over⟩
    rw [show 0 - (s.y + b) = 65536 - s.y + (-65536 - b) by omega]
theorem lst_inR {rs : List (List Sd)} (h : allR rs) (h0 : tot rs ≠ 0) : 0 ≤ (lstL rs.flatten).1 ∧ (lstL rs.flatten).1 ≤ 65536 ∧ 0 ≤ (lstL rs.flatten).2 ∧ (lstL rs.flatten).2 ≤ 65536 := by
  obtain ⟨_, ⟨s, hs, e1⟩, ⟨t, ht, e2⟩⟩ := lst_least (l := rs.flatten) (by rw [flat_len]; omega)
  obtain ⟨l, hl, hs⟩ := List.mem_flatten.1 hs
  obtain ⟨m, hm, ht⟩ := List.mem_flatten.1 ht
  obtain ⟨s1, s2, _, _⟩ := h l hl s hs
  obtain ⟨_, _, t3, t4⟩ := h m hm t ht
  omega
theorem rotV_eq {rs : List (List Sd)} (h : allR rs) (h0 : tot rs ≠ 0) (n : Nat) : rotV rs n = rotT n rs := by
  obtain ⟨a, b, a1, a2, b1, b2, e⟩ := rotN_eq h n
  have hq := qN_allR h n
  have h0q : tot (qN n rs) ≠ 0 := by rw [qN_tot]; exact h0
  obtain ⟨l1, l2, l3, l4⟩ := lst_inR h h0
  obtain ⟨q1, q2, q3, q4⟩ := lst_inR hq h0q
  unfold rotV rotT
  rw [e, lst_trR a b h0q]
  simp only
  generalize (lstL rs.flatten).1 = X at *
  generalize (lstL rs.flatten).2 = Y at *
  generalize (lstL (qN n rs).flatten).1 = U at *
  generalize (lstL (qN n rs).flatten).2 = V at *
  rw [show mvR (homF (U + a) (V + b) X Y) (trR a b (qN n rs)) = (trR a b (qN n rs)).map (·.map (tr (X - U - a) (Y - V - b))) from mvR_eq fun l hl s hs => by
    obtain ⟨m, hm, rfl⟩ := List.mem_map.1 hl
    obtain ⟨t, ht, rfl⟩ := List.mem_map.1 hs
    obtain ⟨t1, t2, t3, t4⟩ := hq m hm t ht
    show (⟨w64 (w64 (t.x + a - (U + a)) + X), w64 (w64 (t.y + b - (V + b)) + Y), t.rise, t.run, t.gable, t.plate, t.over⟩ : Sd) = ⟨t.x + a + (X - U - a), t.y + b + (Y - V - b), t.rise, t.run, t.gable, t.plate, t.over⟩
    rw [w64_id (x := t.x + a - (U + a)) (by omega) (by omega), w64_id (x := t.y + b - (V + b)) (by omega) (by omega), w64_id (by omega) (by omega), w64_id (by omega) (by omega)]
    congr 1 <;> omega]
  have := tr_tr (X - U - a) (Y - V - b) a b (qN n rs)
  rw [show a + (X - U - a) = X - U by omega, show b + (Y - V - b) = Y - V by omega] at this
  exact this
end Go.Proofs.YtnpfkmbcejgnjaaGreatDoor
