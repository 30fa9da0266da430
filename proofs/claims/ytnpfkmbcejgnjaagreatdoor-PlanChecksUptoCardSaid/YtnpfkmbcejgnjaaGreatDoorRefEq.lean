/-
  Plain facts: the reference's questions and the program's have the same answers.
-/
import Derived.Test.YtnpfkmbcejgnjaaGreatDoorRef5
namespace Go.Proofs.YtnpfkmbcejgnjaaGreatDoor
open Go Go.RowKit Go.Am
theorem sgI_cases (a : Int) : (sgI a = -1 ∧ a < 0) ∨ (sgI a = 0 ∧ a = 0) ∨ (sgI a = 1 ∧ a > 0) := by
  unfold sgI
  rcases Int.lt_trichotomy a 0 with h | h | h
  · rw [if_pos h]; exact .inl ⟨rfl, h⟩
  · rw [if_neg (by omega), if_neg (by omega)]; exact .inr (.inl ⟨rfl, h⟩)
  · rw [if_neg (by omega), if_pos h]; exact .inr (.inr ⟨rfl, h⟩)
theorem dir_eq {l : List Sd} (hr : ∀ s ∈ l, inR s) {i : Nat} (hi : i < l.length) : dirX l i = sgI ((sd l (nxt l.length i)).x - (sd l i).x) ∧ dirY l i = sgI ((sd l (nxt l.length i)).y - (sd l i).y) := by
  obtain ⟨s1, s2, s3, s4⟩ := sd_inR hr hi
  obtain ⟨n1, n2, n3, n4⟩ := sd_inR hr (nxt_lt hi)
  unfold dirX dirY
  rw [d64 ⟨n1, n2⟩ ⟨s1, s2⟩, d64 ⟨n3, n4⟩ ⟨s3, s4⟩]
  exact ⟨rfl, rfl⟩
theorem ax_iff {l : List Sd} (hr : ∀ s ∈ l, inR s) {i : Nat} (hi : i < l.length) : axR l i = true ↔ ¬ (((sd l (nxt l.length i)).x - (sd l i).x = 0) ↔ ((sd l (nxt l.length i)).y - (sd l i).y = 0)) := by
  obtain ⟨e1, e2⟩ := dir_eq hr hi
  unfold axR
  rw [e1, e2]
  generalize (sd l (nxt l.length i)).x - (sd l i).x = a
  generalize (sd l (nxt l.length i)).y - (sd l i).y = b
  rcases sgI_cases a with ⟨ea, ha⟩ | ⟨ea, ha⟩ | ⟨ea, ha⟩ <;> rcases sgI_cases b with ⟨eb, hb⟩ | ⟨eb, hb⟩ | ⟨eb, hb⟩ <;> rw [ea, eb]
  · rw [show (w64 (w64 (-1 * -1) + w64 (-1 * -1)) == 1) = false by decide]; constructor <;> intro h; cases h; omega
  · rw [show (w64 (w64 (-1 * -1) + w64 (0 * 0)) == 1) = true by decide]; constructor <;> intro h; omega; rfl
  · rw [show (w64 (w64 (-1 * -1) + w64 (1 * 1)) == 1) = false by decide]; constructor <;> intro h; cases h; omega
  · rw [show (w64 (w64 (0 * 0) + w64 (-1 * -1)) == 1) = true by decide]; constructor <;> intro h; omega; rfl
  · rw [show (w64 (w64 (0 * 0) + w64 (0 * 0)) == 1) = false by decide]; constructor <;> intro h; cases h; omega
  · rw [show (w64 (w64 (0 * 0) + w64 (1 * 1)) == 1) = true by decide]; constructor <;> intro h; omega; rfl
  · rw [show (w64 (w64 (1 * 1) + w64 (-1 * -1)) == 1) = false by decide]; constructor <;> intro h; cases h; omega
  · rw [show (w64 (w64 (1 * 1) + w64 (0 * 0)) == 1) = true by decide]; constructor <;> intro h; omega; rfl
  · rw [show (w64 (w64 (1 * 1) + w64 (1 * 1)) == 1) = false by decide]; constructor <;> intro h; cases h; omega
/-- The turn between two sides at right angles, or in one line. -/
theorem trn_cases {l : List Sd} (hr : ∀ s ∈ l, inR s) {i : Nat} (hi : i < l.length) (h1 : axR l i = true) (h2 : axR l (prv l.length i) = true) :
    (trnR l i ≠ 0 ↔ ¬ (((sd l i).x - (sd l (prv l.length i)).x = 0) ↔ ((sd l (nxt l.length i)).x - (sd l i).x = 0))) ∧ (trnR l i ≠ 0 → (trnR l i < 0 ↔ leftB (sd l (prv l.length i)) (sd l i) (sd l (nxt l.length i)) = false)) := by
  have a1 := (ax_iff hr hi).1 h1
  have a2 := (ax_iff hr (prv_lt hi)).1 h2
  obtain ⟨e1, e2⟩ := dir_eq hr hi
  obtain ⟨e3, e4⟩ := dir_eq hr (prv_lt hi)
  rw [nxt_prv hi] at a2 e3 e4
  have i1 := sd_inR hr hi
  have i2 := sd_inR hr (nxt_lt hi)
  have i3 := sd_inR hr (prv_lt hi)
  rw [leftB_eq i3 i1 i2, decide_eq_false_iff_not]
  unfold trnR
  rw [e1, e2, e3, e4]
  generalize (sd l (nxt l.length i)).x - (sd l i).x = c at *
  generalize (sd l (nxt l.length i)).y - (sd l i).y = d at *
  generalize (sd l i).x - (sd l (prv l.length i)).x = a at *
  generalize (sd l i).y - (sd l (prv l.length i)).y = b at *
  have pp : ∀ x y : Int, x > 0 → y > 0 → x * y > 0 := fun x y h h' => Int.mul_pos h h'
  have pn : ∀ x y : Int, x > 0 → y < 0 → x * y < 0 := fun x y h h' => Int.mul_neg_of_pos_of_neg h h'
  have np : ∀ x y : Int, x < 0 → y > 0 → x * y < 0 := fun x y h h' => Int.mul_neg_of_neg_of_pos h h'
  have nn : ∀ x y : Int, x < 0 → y < 0 → x * y > 0 := fun x y h h' => Int.mul_pos_of_neg_of_neg h h'
  by_cases ha : a = 0
  · subst ha
    have hb : b ≠ 0 := by omega
    rw [show sgI 0 = 0 from rfl, Int.zero_mul, Int.zero_mul]
    by_cases hd : d = 0
    · subst hd
      have hc : c ≠ 0 := by omega
      rcases sgI_cases b with ⟨eb, hb'⟩ | ⟨eb, hb'⟩ | ⟨eb, hb'⟩ <;> rcases sgI_cases c with ⟨ec, hc'⟩ | ⟨ec, hc'⟩ | ⟨ec, hc'⟩ <;> first | omega | skip
      · rw [eb, ec, show w64 (w64 0 - w64 (-1 * -1)) = -1 by decide]; have := nn b c hb' hc'; omega
      · rw [eb, ec, show w64 (w64 0 - w64 (-1 * 1)) = 1 by decide]; have := np b c hb' hc'; omega
      · rw [eb, ec, show w64 (w64 0 - w64 (1 * -1)) = 1 by decide]; have := pn b c hb' hc'; omega
      · rw [eb, ec, show w64 (w64 0 - w64 (1 * 1)) = -1 by decide]; have := pp b c hb' hc'; omega
    · have hc : c = 0 := by omega
      subst hc
      rw [show sgI 0 = 0 from rfl, Int.mul_zero, show w64 (w64 0 - w64 0) = 0 by decide]
      omega
  · have hb : b = 0 := by omega
    subst hb
    rw [show sgI 0 = 0 from rfl, Int.zero_mul, Int.zero_mul]
    by_cases hc : c = 0
    · subst hc
      have hd : d ≠ 0 := by omega
      rcases sgI_cases a with ⟨eb, hb'⟩ | ⟨eb, hb'⟩ | ⟨eb, hb'⟩ <;> rcases sgI_cases d with ⟨ec, hc'⟩ | ⟨ec, hc'⟩ | ⟨ec, hc'⟩ <;> first | omega | skip
      · rw [eb, ec, show w64 (w64 (-1 * -1) - w64 0) = 1 by decide]; have := nn a d hb' hc'; omega
      · rw [eb, ec, show w64 (w64 (-1 * 1) - w64 0) = -1 by decide]; have := np a d hb' hc'; omega
      · rw [eb, ec, show w64 (w64 (1 * -1) - w64 0) = -1 by decide]; have := pn a d hb' hc'; omega
      · rw [eb, ec, show w64 (w64 (1 * 1) - w64 0) = 1 by decide]; have := pp a d hb' hc'; omega
    · have hd : d = 0 := by omega
      subst hd
      rw [show sgI 0 = 0 from rfl, Int.mul_zero, show w64 (w64 0 - w64 0) = 0 by decide]
      omega
theorem shp_eq {l : List Sd} (hr : ∀ s ∈ l, inR s) : shpR l = shp l := by
  rw [Bool.eq_iff_iff]
  constructor
  · intro h
    unfold shpR at h
    obtain ⟨h1, h2⟩ := Bool.and_eq_true_iff.1 h
    have ok : ∀ i, i < l.length → axR l i = true ∧ trnR l i ≠ 0 := fun i hi => by
      have := List.all_eq_true.1 h1 i (List.mem_range.2 hi)
      unfold okR at this
      obtain ⟨a, b⟩ := Bool.and_eq_true_iff.1 this
      exact ⟨a, by simpa using b⟩
    exact shp_mk hr (of_decide_eq_true h2) fun i hi => ⟨(ax_iff hr hi).1 (ok i hi).1, (trn_cases hr hi (ok i hi).1 (ok _ (prv_lt hi)).1).1.1 (ok i hi).2⟩
  · intro h
    have ax : ∀ i, i < l.length → axR l i = true := fun i hi => (ax_iff hr hi).2 (shp_side hr h hi).1
    unfold shpR
    rw [decide_eq_true (shp_len h), Bool.and_true]
    refine List.all_eq_true.2 fun i hi => ?_
    have hi := List.mem_range.1 hi
    have := (trn_cases hr hi (ax i hi) (ax _ (prv_lt hi))).1.2 (shp_side hr h hi).2
    unfold okR
    rw [ax i hi, beq_eq_false_iff_ne.2 this]; rfl
theorem shp_turn {l : List Sd} (hr : ∀ s ∈ l, inR s) (h : shp l = true) {i : Nat} (hi : i < l.length) : trnR l i ≠ 0 ∧ (trnR l i < 0 ↔ leftB (sd l (prv l.length i)) (sd l i) (sd l (nxt l.length i)) = false) := by
  have ax : ∀ i, i < l.length → axR l i = true := fun i hi => (ax_iff hr hi).2 (shp_side hr h hi).1
  have t := trn_cases hr hi (ax i hi) (ax _ (prv_lt hi))
  have hne := t.1.2 (shp_side hr h hi).2
  exact ⟨hne, t.2 hne⟩
theorem ref_eq {l : List Sd} (hr : ∀ s ∈ l, inR s) (h : shp l = true) {i : Nat} (hi : i < l.length) : refS l i = joinSide l i := by
  have t := (shp_turn hr h hi).2
  unfold refS joinSide joinB
  cases hl : leftB (sd l (prv l.length i)) (sd l i) (sd l (nxt l.length i)) with
  | true => rw [decide_eq_false (fun e => by rw [t.1 e] at hl; cases hl)]; rfl
  | false =>
    rw [decide_eq_true (t.2 hl), Bool.true_and, Bool.false_or]
    have e : ∀ a b : Int, (!(false || false || (a != b))) = (!false && !false && (b == a)) := fun a b => by
      by_cases h : a = b
      · subst h; simp
      · rw [bne_iff_ne.2 h, beq_eq_false_iff_ne.2 (fun x => h x.symm)]; rfl
    cases (sd l i).gable <;> cases (sd l (prv l.length i)).gable <;> first | rfl | exact e _ _
theorem jnd_eq {rs : List (List Sd)} (hin : allR rs) (hs : ∀ l ∈ rs, shp l = true) : jndR rs = jnd rs := by
  unfold jndR jnd
  congr 1
  rw [Bool.eq_iff_iff, List.all_eq_true, List.all_eq_true]
  have e : ∀ l ∈ rs, ((List.range l.length).all (refS l)) = joinRing l := fun l hl => all_congr fun i hi => ref_eq (hin l hl) (hs l hl) hi
  constructor <;> intro h l hl
  · rw [← e l hl]; exact h l hl
  · rw [e l hl]; exact h l hl
theorem tw_eq {l : List Sd} (h : ∀ s ∈ l, inR s) : ∀ k, k ≤ l.length → k ≤ 1000000 → twR l k = sumTo (crossAt l) k ∧ -(k * 4294967296 : Int) ≤ twR l k ∧ twR l k ≤ k * 4294967296
  | 0, _, _ => ⟨rfl, by simp [twR], by simp [twR]⟩
  | k + 1, hk, hm => by
    obtain ⟨h1, h2, h3⟩ := tw_eq h k (by omega) (by omega)
    have hs := sd_inR h (show k < l.length by omega)
    have hn := sd_inR h (nxt_lt (show k < l.length by omega))
    obtain ⟨a1, a2⟩ := mul_bound hs.1 hs.2.1 hn.2.2.1 hn.2.2.2
    obtain ⟨b1, b2⟩ := mul_bound hs.2.2.1 hs.2.2.2 hn.1 hn.2.1
    have e : twR l (k + 1) = twR l k + crossAt l k := by
      show w64 (w64 (twR l k + w64 ((sd l k).x * (sd l (nxt l.length k)).y)) - w64 ((sd l (nxt l.length k)).x * (sd l k).y)) = _
      unfold crossAt
      rw [Int.mul_comm (sd l (nxt l.length k)).x, w64_id (x := (sd l k).x * _) (by omega) (by omega), w64_id (x := (sd l k).y * _) (by omega) (by omega), w64_id (x := twR l k + _) (by omega) (by omega)]
      rw [w64_id (by omega) (by omega)]; omega
    have ec : crossAt l k = (sd l k).x * (sd l (nxt l.length k)).y - (sd l k).y * (sd l (nxt l.length k)).x := rfl
    refine ⟨by rw [e, h1]; rfl, ?_, ?_⟩ <;> rw [e, ec] <;> push_cast <;> omega
theorem ins_eq {l : List Sd} (h : ∀ s ∈ l, inR s) (px py : Int) : ∀ k, k ≤ l.length → insR l px py k = insUp l px py k
  | 0, _ => rfl
  | k + 1, hk => by
    have hs := sd_inR h (show k < l.length by omega)
    have hn := sd_inR h (nxt_lt (show k < l.length by omega))
    have e : passR (sd l k) (sd l (nxt l.length k)) px py = passB (sd l k) (sd l (nxt l.length k)) px py := by
      unfold passR passB
      rw [d64 ⟨hn.1, hn.2.1⟩ ⟨hs.1, hs.2.1⟩]
      generalize sd l k = t
      generalize sd l (nxt l.length k) = u
      by_cases hx : t.x = u.x
      · rw [beq_iff_eq.2 hx, beq_iff_eq.2 (show u.x - t.x = 0 by omega), hx]
        rw [Bool.true_and, Bool.and_assoc]
        congr 1
        unfold loy hiy
        by_cases h1 : t.y > py <;> by_cases h2 : u.y > py
        · rw [decide_eq_true h1, decide_eq_true h2, decide_eq_false (by split <;> omega)]; rfl
        · rw [decide_eq_true h1, decide_eq_false h2, decide_eq_true (by split <;> omega), decide_eq_true (by split <;> omega)]; rfl
        · rw [decide_eq_false h1, decide_eq_true h2, decide_eq_true (by split <;> omega), decide_eq_true (by split <;> omega)]; rfl
        · rw [decide_eq_false h1, decide_eq_false h2, decide_eq_false (p := py < _) (by split <;> omega), Bool.and_false]; rfl
      · rw [beq_eq_false_iff_ne.2 hx, beq_eq_false_iff_ne.2 (show u.x - t.x ≠ 0 by omega)]; rfl
    show (if passR (sd l k) (sd l (nxt l.length k)) px py = true then !insR l px py k else insR l px py k) = (if passB (sd l k) (sd l (nxt l.length k)) px py = true then !insUp l px py k else insUp l px py k)
    rw [e, ins_eq h px py k (by omega)]
theorem plc_eq {rs : List (List Sd)} (hin : allR rs) (hs : ∀ l ∈ rs, shp l = true) (hc : crs rs = false) (hT : tot rs ≤ 24) (hpos : 0 < rs.length) : plcR rs = plc rs := by
  have ar : ∀ r, r < rs.length → twR (rg rs r) (rg rs r).length = areaUp (rg rs r) (rg rs r).length ∧ areaUp (rg rs r) (rg rs r).length ≠ 0 := fun r hr => by
    have hm : rg rs r ∈ rs := List.mem_of_getElem? (rg_get hr)
    have hlen := len_le_tot hm
    rw [(tw_eq (hin _ hm) _ (Nat.le_refl _) (by omega)).1, (areaUp_eq (hin _ hm) _ (Nat.le_refl _) (by omega)).1]
    exact ⟨rfl, area_ne hin hs hc hr⟩
  have pk : ∀ r s, r < rs.length → s < rs.length → r ≠ 0 → plsR rs r s = placeK rs r s := fun r s hr hs' h0 => by
    unfold plsR placeK
    rw [ins_eq (hin _ (List.mem_of_getElem? (rg_get hs'))) _ _ _ (Nat.le_refl _), beq_eq_false_iff_ne.2 h0, Bool.or_false]
  have all : ∀ r, r < rs.length → r ≠ 0 → ((List.range rs.length).all (plsR rs r)) = ((List.range rs.length).all (placeK rs r)) := fun r hr h0 => all_congr fun s hs' => pk r s hr hs' h0
  rw [Bool.eq_iff_iff]
  constructor
  · intro h
    unfold plcR at h
    obtain ⟨h1, h2⟩ := Bool.and_eq_true_iff.1 h
    refine List.all_eq_true.2 fun r hr => ?_
    have hr := List.mem_range.1 hr
    have hr2 := List.all_eq_true.1 h2 r (List.mem_range.2 hr)
    obtain ⟨a1, a2⟩ := ar r hr
    unfold placeRing
    by_cases e : r = 0
    · subst e
      rw [a1] at h1
      have h1 : ¬ areaUp (rg rs 0) (rg rs 0).length ≤ 0 := by simpa using h1
      rw [decide_eq_true (by omega)]
      exact Bool.and_eq_true_iff.2 ⟨rfl, List.all_eq_true.2 fun k _ => by unfold placeK; simp⟩
    · unfold plrR at hr2
      rw [beq_eq_false_iff_ne.2 e, Bool.false_or, a1] at hr2
      obtain ⟨b1, b2⟩ := Bool.and_eq_true_iff.1 hr2
      have b1 : ¬ areaUp (rg rs r) (rg rs r).length ≥ 0 := by simpa using b1
      rw [decide_eq_false (by omega), beq_eq_false_iff_ne.2 e, ← all r hr e, b2]; rfl
  · intro h
    have pr : ∀ r, r < rs.length → placeRing rs r = true := fun r hr => List.all_eq_true.1 h r (List.mem_range.2 hr)
    unfold plcR
    have h0 := pr 0 hpos
    unfold placeRing at h0
    obtain ⟨c1, _⟩ := Bool.and_eq_true_iff.1 h0
    obtain ⟨a1, a2⟩ := ar 0 hpos
    have c2 : areaUp (rg rs 0) (rg rs 0).length > 0 := by simpa using c1
    rw [a1, decide_eq_false (by omega), Bool.not_false, Bool.true_and]
    refine List.all_eq_true.2 fun r hr => ?_
    have hr := List.mem_range.1 hr
    unfold plrR
    by_cases e : r = 0
    · subst e; rfl
    · have h1 := pr r hr
      unfold placeRing at h1
      obtain ⟨d1, d2⟩ := Bool.and_eq_true_iff.1 h1
      obtain ⟨a1, a2⟩ := ar r hr
      rw [beq_eq_false_iff_ne.2 e, beq_iff_eq, decide_eq_false_iff_not] at d1
      rw [a1, decide_eq_false (by omega), all r hr e, d2]
      simp
theorem chkR_eq (rs : List (List Sd)) : chkR rs = chk rs := by
  unfold chkR chk
  by_cases hN : rs.any (fun l => l.length == 0) = true
  · rw [if_pos hN, if_pos hN]
  rw [if_neg hN, if_neg hN]
  by_cases h0 : tot rs = 0
  · rw [if_pos h0, if_pos h0]
  rw [if_neg h0, if_neg h0]
  by_cases h1 : tot rs > 24
  · rw [if_pos h1, if_pos h1]
  rw [if_neg h1, if_neg h1]
  by_cases h2 : rs.flatten.any (fun s => !rgd s) = true
  · rw [if_pos h2, if_pos h2]
  rw [if_neg h2, if_neg h2]
  have hg : ∀ l ∈ rs, ∀ s ∈ l, rgd s = true := any_rgd (by simpa using h2)
  have hin : allR rs := fun l hl s hs => rgd_inR (hg l hl s hs)
  have e3 : rs.any (fun l => !shpR l) = rs.any (fun l => !shp l) := by
    rw [Bool.eq_iff_iff, List.any_eq_true, List.any_eq_true]
    constructor <;> rintro ⟨l, hl, h⟩
    · exact ⟨l, hl, by rw [← shp_eq (hin l hl)]; exact h⟩
    · exact ⟨l, hl, by rw [shp_eq (hin l hl)]; exact h⟩
  rw [e3]
  by_cases h3 : rs.any (fun l => !shp l) = true
  · rw [if_pos h3, if_pos h3]
  rw [if_neg h3, if_neg h3]
  have hs : ∀ l ∈ rs, shp l = true := fun l hl => by
    cases h : shp l with
    | true => rfl
    | false => exact absurd (List.any_eq_true.2 ⟨l, hl, by rw [h]; rfl⟩) h3
  by_cases h4 : crs rs = true
  · rw [if_pos h4, if_pos h4]
  rw [if_neg h4, if_neg h4]
  have hpos : 0 < rs.length := by
    cases rs with
    | nil => exact absurd rfl h0
    | cons x rs => simp
  rw [plc_eq hin hs (by simpa using h4) (by omega) hpos, jnd_eq hin hs]
end Go.Proofs.YtnpfkmbcejgnjaaGreatDoor
