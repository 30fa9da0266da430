/-
  Plain facts: rings that begin elsewhere, courtyards in another order; canonical plans.
-/
import Derived.Test.YtnpfkmbcejgnjaaGreatDoorAreaMath
import Derived.Test.YtnpfkmbcejgnjaaGreatDoorShiftMath
namespace Go.Proofs.YtnpfkmbcejgnjaaGreatDoor
open Go Go.RowKit Go.Am
def rot {α : Type} (l : List α) (k : Nat) : List α := l.drop k ++ l.take k
theorem rot_len {α : Type} (l : List α) (k : Nat) : (rot l k).length = l.length := by
  unfold rot
  rw [List.length_append, List.length_drop, List.length_take]; omega
theorem rot_get {α : Type} {l : List α} {k i : Nat} (hk : k < l.length) (hi : i < l.length) : (rot l k)[i]? = l[(k + i) % l.length]? := by
  rw [md hk (Nat.le_of_lt hi)]
  unfold rot
  by_cases h : i < l.length - k
  · rw [List.getElem?_append_left (by rw [List.length_drop]; exact h), List.getElem?_drop, if_pos (by omega)]
  · rw [List.getElem?_append_right (by rw [List.length_drop]; omega), List.length_drop, List.getElem?_take, if_pos (by omega), if_neg (by omega)]
    congr 1; omega
theorem sd_rot {l : List Sd} {k i : Nat} (hk : k < l.length) (hi : i < l.length) : sd (rot l k) i = sd l ((k + i) % l.length) := by
  unfold sd
  rw [List.getD_eq_getElem?_getD, List.getD_eq_getElem?_getD, rot_get hk hi]
theorem mem_rot {α : Type} {l : List α} {k : Nat} {s : α} : s ∈ rot l k ↔ s ∈ l := by
  unfold rot
  rw [List.mem_append]
  constructor
  · rintro (h | h)
    · exact List.mem_of_mem_drop h
    · exact List.mem_of_mem_take h
  · intro h
    rw [← List.take_append_drop k l] at h
    exact (List.mem_append.1 h).symm
theorem md_lt {n k i : Nat} (h : 0 < n) : (k + i) % n < n := Nat.mod_lt _ h
theorem nxt_rot (n k i : Nat) : nxt n ((k + i) % n) = (k + nxt n i) % n := by
  rw [nxt_md]
  unfold nxt
  rw [Nat.add_mod_mod]
theorem prv_rot {n : Nat} (k i : Nat) (hn : 0 < n) : prv n ((k + i) % n) = (k + prv n i) % n := by
  unfold prv
  rw [Nat.add_mod_mod, show (k + i) % n + n - 1 = (k + i) % n + (n - 1) by omega, Nat.mod_add_mod, show k + i + (n - 1) = k + (i + n - 1) by omega]
theorem md_inj {n k i j : Nat} (hk : k < n) (hi : i < n) (hj : j < n) (h : (k + i) % n = (k + j) % n) : i = j := by
  rw [md hk (Nat.le_of_lt hi), md hk (Nat.le_of_lt hj)] at h
  split at h <;> split at h <;> omega
theorem md_sur {n k i : Nat} (hk : k < n) (hi : i < n) : ∃ j, j < n ∧ (k + j) % n = i := by
  by_cases h : k ≤ i
  · refine ⟨i - k, by omega, ?_⟩
    rw [show k + (i - k) = i by omega, Nat.mod_eq_of_lt hi]
  · refine ⟨i + n - k, by omega, ?_⟩
    rw [show k + (i + n - k) = i + n by omega, Nat.add_mod_right, Nat.mod_eq_of_lt hi]
theorem area_sign {rs : List (List Sd)} (hc : chk rs = 0) {r : Nat} (hr : r < rs.length) : sumTo (crossAt (rg rs r)) (rg rs r).length > 0 ↔ r = 0 := by
  obtain ⟨_, _, _, hp, _⟩ := chk_parts hc
  obtain ⟨_, h24, _⟩ := chk_ne hc
  have hin := chk_inR hc
  have hm : rg rs r ∈ rs := List.mem_of_getElem? (rg_get hr)
  have hlen := len_le_tot hm
  have h1 : placeRing rs r = true := List.all_eq_true.1 hp r (List.mem_range.2 hr)
  unfold placeRing at h1
  rw [(areaUp_eq (hin _ hm) _ (Nat.le_refl _) (by omega)).1] at h1
  have h5 := (Bool.and_eq_true_iff.1 h1).1
  rw [beq_iff_eq] at h5
  rw [← decide_eq_true_iff (p := sumTo (crossAt (rg rs r)) (rg rs r).length > 0), h5, beq_iff_eq]
theorem someUp_iff (l : List Sd) (b : Bool) : ∀ k, someUp l b k = true ↔ b = true ∨ ∃ i, i < k ∧ (sd l i).gable = false
  | 0 => ⟨.inl, fun h => by
      rcases h with h | ⟨i, hi, _⟩
      · exact h
      · omega⟩
  | k + 1 => by
    show (someUp l b k || !(sd l k).gable) = true ↔ _
    rw [Bool.or_eq_true_iff, someUp_iff l b k, Bool.not_eq_true']
    constructor
    · rintro ((h | ⟨i, hi, h⟩) | h)
      · exact .inl h
      · exact .inr ⟨i, by omega, h⟩
      · exact .inr ⟨k, by omega, h⟩
    · rintro (h | ⟨i, hi, h⟩)
      · exact .inl (.inl h)
      · by_cases e : i = k
        · subst e; exact .inr h
        · exact .inl (.inr ⟨i, by omega, h⟩)
theorem someRs_iff (rs : List (List Sd)) : ∀ n, someRs rs n = true ↔ ∃ r i, r < n ∧ i < (rg rs r).length ∧ (sd (rg rs r) i).gable = false
  | 0 => ⟨fun h => (by cases h), fun ⟨r, i, h, _⟩ => by omega⟩
  | n + 1 => by
    show someUp (rg rs n) (someRs rs n) (rg rs n).length = true ↔ _
    rw [someUp_iff, someRs_iff rs n]
    constructor
    · rintro (⟨r, i, h1, h2, h3⟩ | ⟨i, h1, h2⟩)
      · exact ⟨r, i, by omega, h2, h3⟩
      · exact ⟨n, i, by omega, h1, h2⟩
    · rintro ⟨r, i, h1, h2, h3⟩
      by_cases e : r = n
      · subst e; exact .inr ⟨i, h2, h3⟩
      · exact .inl ⟨r, i, by omega, h2, h3⟩
/-- The same rings, begun elsewhere, courtyards in another order. -/
structure Sim (rs rs' : List (List Sd)) (τ κ : Nat → Nat) : Prop where
  len : rs'.length = rs.length
  ring : ∀ r, r < rs.length → rg rs' r = rot (rg rs (τ r)) (κ r)
  kap : ∀ r, r < rs.length → κ r < (rg rs (τ r)).length
  lt : ∀ r, r < rs.length → τ r < rs.length
  inj : ∀ r s, r < rs.length → s < rs.length → τ r = τ s → r = s
  sur : ∀ r, r < rs.length → ∃ r', r' < rs.length ∧ τ r' = r
  zero : ∀ r, r < rs.length → (τ r = 0 ↔ r = 0)
  tot : tot rs' = tot rs
theorem chk_sim {rs rs' : List (List Sd)} {τ κ : Nat → Nat} (hc : chk rs = 0) (S : Sim rs rs' τ κ) : chk rs' = 0 := by
  obtain ⟨hg, hsh, hx, hp, hj⟩ := chk_parts hc
  obtain ⟨hne, h24, h0⟩ := chk_ne hc
  have hin := chk_inR hc
  have memR : ∀ r, r < rs.length → rg rs r ∈ rs := fun r hr => List.mem_of_getElem? (rg_get hr)
  have mem : ∀ l ∈ rs', ∃ r, r < rs.length ∧ l = rot (rg rs (τ r)) (κ r) := fun l hl => by
    obtain ⟨r, hr, e⟩ := List.getElem_of_mem hl
    have hr' : r < rs.length := by rw [← S.len]; exact hr
    refine ⟨r, hr', ?_⟩
    rw [← S.ring r hr', ← e]
    simp [rg, hr]
  have ln : ∀ r, r < rs.length → (rg rs' r).length = (rg rs (τ r)).length := fun r hr => by rw [S.ring r hr, rot_len]
  have n0 : ∀ r, r < rs.length → 0 < (rg rs (τ r)).length := fun r hr => Nat.lt_of_le_of_lt (Nat.zero_le _) (S.kap r hr)
  have hsd : ∀ r i, r < rs.length → i < (rg rs (τ r)).length → sd (rg rs' r) i = sd (rg rs (τ r)) ((κ r + i) % (rg rs (τ r)).length) := fun r i hr hi => by
    rw [S.ring r hr, sd_rot (S.kap r hr) hi]
  have hnx : ∀ r i, r < rs.length → i < (rg rs (τ r)).length → sd (rg rs' r) (nxt (rg rs' r).length i) = sd (rg rs (τ r)) (nxt (rg rs (τ r)).length ((κ r + i) % (rg rs (τ r)).length)) := fun r i hr hi => by
    rw [ln r hr, hsd r _ hr (nxt_lt hi), nxt_rot]
  have hpv : ∀ r i, r < rs.length → i < (rg rs (τ r)).length → sd (rg rs' r) (prv (rg rs' r).length i) = sd (rg rs (τ r)) (prv (rg rs (τ r)).length ((κ r + i) % (rg rs (τ r)).length)) := fun r i hr hi => by
    rw [ln r hr, hsd r _ hr (prv_lt hi), prv_rot _ _ (n0 r hr)]
  have hin' : ∀ l ∈ rs', ∀ s ∈ l, inR s := fun l hl s hs => by
    obtain ⟨r, hr, rfl⟩ := mem l hl
    exact hin _ (memR _ (S.lt r hr)) s (mem_rot.1 hs)
  have memR' : ∀ r, r < rs.length → rg rs' r ∈ rs' := fun r hr => List.mem_of_getElem? (rg_get (by rw [S.len]; exact hr))
  have shp' : ∀ l ∈ rs', shp l = true := fun l hl => by
    obtain ⟨r, hr, rfl⟩ := mem l hl
    have h1 := hsh _ (memR _ (S.lt r hr))
    unfold shp at h1 ⊢
    rw [rot_len]
    obtain ⟨h2, h3⟩ := Bool.and_eq_true_iff.1 h1
    rw [h2, Bool.true_and]
    refine List.all_eq_true.2 fun i hi => ?_
    have hi := List.mem_range.1 hi
    have h4 := List.all_eq_true.1 h3 _ (List.mem_range.2 (md_lt (k := κ r) (i := i) (n0 r hr)))
    have e1 := hsd r i hr hi
    have e2 := hnx r i hr hi
    have e3 := hpv r i hr hi
    rw [S.ring r hr] at e1 e2 e3
    unfold okSide at h4 ⊢
    rw [e1, e2, e3]
    exact h4
  refine chk_zero (fun l hl e => ?_) (by rw [S.tot]; exact h0) (by rw [S.tot]; exact h24) (any_rgd_mk fun l hl s hs => ?_) shp' ((crs_iff rs').2 fun r i s k hr hi hs hk hn => ?_) (List.all_eq_true.2 fun r hr => ?_) (Bool.and_eq_true_iff.2 ⟨List.all_eq_true.2 fun l hl => ?_, ?_⟩)
  · obtain ⟨r, hr, rfl⟩ := mem l hl
    have h1 := congrArg List.length e
    rw [rot_len, List.length_nil] at h1
    have := n0 r hr
    omega
  · obtain ⟨r, hr, rfl⟩ := mem l hl
    exact hg _ (memR _ (S.lt r hr)) s (mem_rot.1 hs)
  · rw [S.len] at hr hs
    have hi' : i < (rg rs (τ r)).length := by rw [← ln r hr]; exact hi
    have hk' : k < (rg rs (τ s)).length := by rw [← ln s hs]; exact hk
    have h := (crs_iff rs).1 hx (τ r) ((κ r + i) % (rg rs (τ r)).length) (τ s) ((κ s + k) % (rg rs (τ s)).length) (S.lt r hr) (md_lt (n0 r hr)) (S.lt s hs) (md_lt (n0 s hs)) (fun hnear => hn ?_)
    · show meetB (sd (rg rs' r) i) (sd (rg rs' r) (nxt (rg rs' r).length i)) (sd (rg rs' s) k) (sd (rg rs' s) (nxt (rg rs' s).length k)) = false
      rw [hsd r i hr hi', hnx r i hr hi', hsd s k hs hk', hnx s k hs hk']
      exact h
    · obtain ⟨e, hnear⟩ := hnear
      have e := S.inj r s hr hs e
      subst e
      refine ⟨rfl, ?_⟩
      rw [nxt_rot, nxt_rot] at hnear
      rw [ln r hr]
      rcases hnear with h | h | h
      · exact .inl (md_inj (S.kap r hr) hi' hk' h)
      · exact .inr (.inl (md_inj (S.kap r hr) hi' (nxt_lt hk') h))
      · exact .inr (.inr (md_inj (S.kap r hr) hk' (nxt_lt hi') h))
  · have hr := List.mem_range.1 hr
    rw [S.len] at hr
    have hlt := len_le_tot (memR _ (S.lt r hr))
    unfold placeRing
    rw [(areaUp_eq (hin' _ (memR' r hr)) _ (Nat.le_refl _) (by rw [ln r hr]; omega)).1]
    have ea : sumTo (crossAt (rg rs' r)) (rg rs' r).length = sumTo (crossAt (rg rs (τ r))) (rg rs (τ r)).length := by
      rw [← sumTo_from (crossAt (rg rs (τ r))) (rg rs (τ r)).length (κ r), ln r hr]
      refine sumTo_congr _ fun i hi => ?_
      unfold crossAt
      rw [hsd r i hr hi, hnx r i hr hi]
    rw [ea]
    refine Bool.and_eq_true_iff.2 ⟨?_, List.all_eq_true.2 fun k hk => ?_⟩
    · rw [beq_iff_eq]
      have h1 := (area_sign hc (S.lt r hr)).trans (S.zero r hr)
      by_cases e : r = 0
      · rw [decide_eq_true (h1.2 e), e]; rfl
      · rw [decide_eq_false (fun h => e (h1.1 h)), beq_false_of_ne e]
    · have hk := List.mem_range.1 hk
      rw [S.len] at hk
      unfold placeK
      by_cases ek : k = r
      · subst ek; simp
      by_cases e0 : r = 0
      · subst e0; simp
      have hne : τ r ≠ τ k := fun e => ek (S.inj r k hr hk e).symm
      have hpar := ins_par (hin' _ (memR' k hk)) (shp_axial (hin' _ (memR' k hk)) (shp' _ (memR' k hk))) (sd (rg rs' r) 0).x (sd (rg rs' r) 0).y _ (Nat.le_refl _)
      have hc0 : sd (rg rs' r) 0 = sd (rg rs (τ r)) (κ r) := by
        rw [hsd r 0 hr (n0 r hr), Nat.add_zero, Nat.mod_eq_of_lt (S.kap r hr)]
      have hc1 : ∀ j, j < (rg rs' k).length → ind (sd (rg rs' k) j).x (sd (rg rs' r) 0).x * (ind (sd (rg rs' k) (nxt (rg rs' k).length j)).y (sd (rg rs' r) 0).y - ind (sd (rg rs' k) j).y (sd (rg rs' r) 0).y) = (fun j => ind (sd (rg rs (τ k)) j).x (sd (rg rs (τ r)) (κ r)).x * (ind (sd (rg rs (τ k)) (nxt (rg rs (τ k)).length j)).y (sd (rg rs (τ r)) (κ r)).y - ind (sd (rg rs (τ k)) j).y (sd (rg rs (τ r)) (κ r)).y)) ((κ k + j) % (rg rs (τ k)).length) := fun j hj' => by
        rw [ln k hk] at hj'
        simp only
        rw [hnx k j hk hj', hsd k j hk hj', hc0]
      have esum : sumTo (fun j => ind (sd (rg rs' k) j).x (sd (rg rs' r) 0).x * (ind (sd (rg rs' k) (nxt (rg rs' k).length j)).y (sd (rg rs' r) 0).y - ind (sd (rg rs' k) j).y (sd (rg rs' r) 0).y)) (rg rs' k).length = Wr rs (τ k) (sd (rg rs (τ r)) (κ r)).x (sd (rg rs (τ r)) (κ r)).y := by
        rw [sumTo_congr _ hc1, ln k hk]
        exact sumTo_from (fun j => ind (sd (rg rs (τ k)) j).x (sd (rg rs (τ r)) (κ r)).x * (ind (sd (rg rs (τ k)) (nxt (rg rs (τ k)).length j)).y (sd (rg rs (τ r)) (κ r)).y - ind (sd (rg rs (τ k)) j).y (sd (rg rs (τ r)) (κ r)).y)) (rg rs (τ k)).length (κ k)
      rw [esum, Wr_at hc (S.lt r hr) (S.lt k hk) hne _ (S.kap r hr)] at hpar
      rw [beq_false_of_ne ek, beq_false_of_ne e0, Bool.false_or, Bool.false_or, beq_iff_eq]
      have hz := S.zero k hk
      by_cases e : k = 0
      · rw [if_pos (hz.2 e)] at hpar
        rw [e] at hpar ⊢
        cases hi : insUp (rg rs' 0) (sd (rg rs' r) 0).x (sd (rg rs' r) 0).y (rg rs' 0).length with
        | true => rfl
        | false => rw [hi] at hpar; cases hpar
      · rw [if_neg (fun h => e (hz.1 h))] at hpar
        rw [beq_false_of_ne e]
        cases hi : insUp (rg rs' k) (sd (rg rs' r) 0).x (sd (rg rs' r) 0).y (rg rs' k).length with
        | false => rfl
        | true => rw [hi] at hpar; cases hpar
  · obtain ⟨r, hr, rfl⟩ := mem l hl
    have h1 := List.all_eq_true.1 (Bool.and_eq_true_iff.1 hj).1 _ (memR _ (S.lt r hr))
    unfold joinRing at h1 ⊢
    rw [rot_len]
    refine List.all_eq_true.2 fun i hi => ?_
    have hi := List.mem_range.1 hi
    have h4 := List.all_eq_true.1 h1 _ (List.mem_range.2 (md_lt (k := κ r) (i := i) (n0 r hr)))
    have e1 := hsd r i hr hi
    have e2 := hnx r i hr hi
    have e3 := hpv r i hr hi
    rw [S.ring r hr] at e1 e2 e3
    unfold joinSide at h4 ⊢
    rw [e1, e2, e3]
    exact h4
  · rw [S.len, someRs_iff]
    obtain ⟨r, i, hr, hi, hgb⟩ := (someRs_iff rs rs.length).1 (Bool.and_eq_true_iff.1 hj).2
    obtain ⟨r', hr', e⟩ := S.sur r hr
    subst e
    obtain ⟨j, hj', e⟩ := md_sur (S.kap r' hr') hi
    refine ⟨r', j, hr', by rw [ln r' hr']; exact hj', ?_⟩
    rw [hsd r' j hr' hj', e]
    exact hgb
end Go.Proofs.YtnpfkmbcejgnjaaGreatDoor
namespace Go.Proofs.YtnpfkmbcejgnjaaGreatDoor
open Go Go.RowKit Go.Am
def cmpI (a b : Int) : Int := if a < b then -1 else if a > b then 1 else 0
/-- The order of sides by their corners. -/
def cmpS (a b : Sd) : Int := if cmpI a.x b.x ≠ 0 then cmpI a.x b.x else cmpI a.y b.y
theorem cmpI_val (a b : Int) : (a < b ∧ cmpI a b = -1) ∨ (a > b ∧ cmpI a b = 1) ∨ (a = b ∧ cmpI a b = 0) := by
  unfold cmpI
  by_cases h : a < b
  · rw [if_pos h]; exact .inl ⟨h, rfl⟩
  · rw [if_neg h]
    by_cases h2 : a > b
    · rw [if_pos h2]; exact .inr (.inl ⟨h2, rfl⟩)
    · rw [if_neg h2]; exact .inr (.inr ⟨by omega, rfl⟩)
theorem cmpS_val (a b : Sd) : ((a.x < b.x ∨ (a.x = b.x ∧ a.y < b.y)) ∧ cmpS a b = -1) ∨ ((b.x < a.x ∨ (a.x = b.x ∧ b.y < a.y)) ∧ cmpS a b = 1) ∨ ((a.x = b.x ∧ a.y = b.y) ∧ cmpS a b = 0) := by
  unfold cmpS
  rcases cmpI_val a.x b.x with ⟨h, e⟩ | ⟨h, e⟩ | ⟨h, e⟩ <;> rw [e]
  · rw [if_pos (by decide)]; exact .inl ⟨.inl h, rfl⟩
  · rw [if_pos (by decide)]; exact .inr (.inl ⟨.inl h, rfl⟩)
  · rw [if_neg (by decide)]
    rcases cmpI_val a.y b.y with ⟨h', e'⟩ | ⟨h', e'⟩ | ⟨h', e'⟩ <;> rw [e']
    · exact .inl ⟨.inr ⟨h, h'⟩, rfl⟩
    · exact .inr (.inl ⟨.inr ⟨h, h'⟩, rfl⟩)
    · exact .inr (.inr ⟨⟨h, h'⟩, rfl⟩)
theorem cmpS_neg {a b : Sd} : cmpS a b < 0 ↔ (a.x < b.x ∨ (a.x = b.x ∧ a.y < b.y)) := by
  rcases cmpS_val a b with ⟨h, e⟩ | ⟨h, e⟩ | ⟨h, e⟩ <;> rw [e] <;> constructor <;> intro h' <;> omega
theorem cmpS_zero {a b : Sd} : cmpS a b = 0 ↔ (a.x = b.x ∧ a.y = b.y) := by
  rcases cmpS_val a b with ⟨h, e⟩ | ⟨h, e⟩ | ⟨h, e⟩ <;> rw [e] <;> constructor <;> intro h' <;> omega
/-- The place of the least corner, as it is looked for. -/
def atUp (l : List Sd) : Nat → Nat
  | 0 => 0
  | k + 1 => if cmpS (sd l (k + 1)) (sd l (atUp l k)) < 0 then k + 1 else atUp l k
def atS (l : List Sd) : Nat := atUp l (l.length - 1)
theorem atUp_le (l : List Sd) : ∀ k, atUp l k ≤ k
  | 0 => Nat.le_refl _
  | k + 1 => by
    have := atUp_le l k
    have e : atUp l (k + 1) = if cmpS (sd l (k + 1)) (sd l (atUp l k)) < 0 then k + 1 else atUp l k := rfl
    rw [e]
    split <;> omega
def IsMin (l : List Sd) (i : Nat) : Prop := i < l.length ∧ ∀ j, j < l.length → j ≠ i → cmpS (sd l i) (sd l j) < 0
theorem atUp_min {l : List Sd} {i : Nat} (h : IsMin l i) : ∀ k, i ≤ k → k < l.length → atUp l k = i
  | 0, hk, _ => by show 0 = i; omega
  | k + 1, hk, hl => by
    show (if cmpS (sd l (k + 1)) (sd l (atUp l k)) < 0 then k + 1 else atUp l k) = i
    by_cases e : i = k + 1
    · have h1 := atUp_le l k
      have h2 := h.2 (atUp l k) (by omega) (by omega)
      rw [e] at h2
      rw [if_pos h2, e]
    · rw [atUp_min h k (by omega) (by omega)]
      have h2 := cmpS_neg.1 (h.2 (k + 1) hl (fun e' => e e'.symm))
      rw [if_neg (fun h' => by have := cmpS_neg.1 h'; omega)]
theorem atS_min {l : List Sd} {i : Nat} (h : IsMin l i) : atS l = i := by
  have := h.1
  exact atUp_min h _ (by omega) (by omega)
/-- No corner is there twice. -/
def Dist (l : List Sd) : Prop := ∀ i j, i < l.length → j < l.length → i ≠ j → ¬ ((sd l i).x = (sd l j).x ∧ (sd l i).y = (sd l j).y)
theorem ex_min {l : List Sd} (hd : Dist l) (h0 : 0 < l.length) : IsMin l (atS l) := by
  have key : ∀ k, k < l.length → ∀ j, j ≤ k → j ≠ atUp l k → cmpS (sd l (atUp l k)) (sd l j) < 0 := fun k => by
    induction k with
    | zero => intro _ j hj hn; exact absurd (show j = 0 by omega) hn
    | succ k ih =>
      intro hk j hj hn
      have e : atUp l (k + 1) = if cmpS (sd l (k + 1)) (sd l (atUp l k)) < 0 then k + 1 else atUp l k := rfl
      have hle := atUp_le l k
      by_cases hc : cmpS (sd l (k + 1)) (sd l (atUp l k)) < 0
      · rw [if_pos hc] at e
        rw [e] at hn ⊢
        by_cases e2 : j = atUp l k
        · rw [e2]; exact hc
        · have h1 := cmpS_neg.1 (ih (by omega) j (by omega) e2)
          have h2 := cmpS_neg.1 hc
          exact cmpS_neg.2 (by omega)
      · rw [if_neg hc] at e
        rw [e] at hn ⊢
        by_cases e2 : j = k + 1
        · subst e2
          have h3 := hd (atUp l k) (k + 1) (by omega) hk (by omega)
          rcases cmpS_val (sd l (k + 1)) (sd l (atUp l k)) with ⟨_, e3⟩ | ⟨h4, _⟩ | ⟨h4, _⟩
          · exact absurd (show cmpS (sd l (k + 1)) (sd l (atUp l k)) < 0 by rw [e3]; decide) hc
          · exact cmpS_neg.2 (by omega)
          · exact absurd ⟨h4.1.symm, h4.2.symm⟩ h3
        · exact ih (by omega) j (by omega) hn
  have hle := atUp_le l (l.length - 1)
  exact ⟨by unfold atS; omega, fun j hj hn => key _ (by omega) j (by omega) hn⟩
theorem ring_dist {rs : List (List Sd)} (hc : chk rs = 0) {r : Nat} (hr : r < rs.length) : Dist (rg rs r) := fun i j hi hj hne h => by
  have N := chk_net hc hr
  have s1 := N.side i hi
  have s2 := N.side j hj
  rcases N.free i j hi hj (sd (rg rs r) i).x (sd (rg rs r) i).y (by unfold On; simp only; omega) (by unfold On; simp only; omega) with e | e | e
  · exact hne e
  · rw [e] at h; omega
  · rw [e] at h; omega
theorem corner_apart {rs : List (List Sd)} (hc : chk rs = 0) {r s i j : Nat} (hr : r < rs.length) (hs : s < rs.length) (hne : r ≠ s) (hi : i < (rg rs r).length) (hj : j < (rg rs s).length) : ¬ ((sd (rg rs r) i).x = (sd (rg rs s) j).x ∧ (sd (rg rs r) i).y = (sd (rg rs s) j).y) := fun h => by
  refine apart (chk_parts hc).2.2.1 hr hs hne hi (px := (sd (rg rs r) i).x) (py := (sd (rg rs r) i).y) ?_ j hj ?_
  · unfold OnR On; simp only; omega
  · unfold OnR On; simp only; omega
/-- The ring from its least corner on. -/
def can1 (l : List Sd) : List Sd := rot l (atS l)
theorem rot_zero {α : Type} (l : List α) : rot l 0 = l := by simp [rot]
theorem IsMin.rot {l : List Sd} {i k : Nat} (h : IsMin l i) (hk : k < l.length) : ∃ j, j < l.length ∧ (k + j) % l.length = i ∧ IsMin (rot l k) j := by
  obtain ⟨j, hj, e⟩ := md_sur hk h.1
  refine ⟨j, hj, e, by rw [rot_len]; exact hj, fun m hm hn => ?_⟩
  rw [rot_len] at hm
  rw [sd_rot hk hj, sd_rot hk hm, e]
  exact h.2 _ (md_lt (by omega)) fun h' => hn (md_inj hk hm hj (by rw [h', e]))
theorem rot_rot {α : Type} {l : List α} {k j : Nat} (hk : k < l.length) (hj : j < l.length) : rot (rot l k) j = rot l ((k + j) % l.length) := by
  apply List.ext_getElem?
  intro i
  by_cases hi : i < l.length
  · rw [rot_get (by rw [rot_len]; exact hj) (by rw [rot_len]; exact hi), rot_len, rot_get hk (md_lt (by omega)), rot_get (md_lt (by omega)) hi]
    congr 1
    rw [Nat.add_mod_mod, Nat.mod_add_mod, Nat.add_assoc]
  · rw [List.getElem?_eq_none (by rw [rot_len, rot_len]; omega), List.getElem?_eq_none (by rw [rot_len]; omega)]
/-- Where a ring begins does not matter. -/
theorem can1_rot {l : List Sd} (hd : Dist l) {k : Nat} (hk : k < l.length) : can1 (rot l k) = can1 l := by
  obtain ⟨j, hj, e, hm⟩ := (ex_min hd (by omega)).rot hk
  unfold can1
  rw [atS_min hm, rot_rot hk hj, e]
theorem at_can1 {l : List Sd} (hd : Dist l) (h0 : 0 < l.length) : atS (can1 l) = 0 := by
  have hm := ex_min hd h0
  obtain ⟨j, hj, e, h⟩ := hm.rot hm.1
  have : j = 0 := by
    refine md_inj hm.1 hj h0 ?_
    rw [e, Nat.add_zero, Nat.mod_eq_of_lt hm.1]
  unfold can1
  rw [atS_min h, this]
theorem can1_len (l : List Sd) : (can1 l).length = l.length := rot_len ..
/-! ### Rings with the old numbers of their sides -/
abbrev PR := List Sd × List Int
def oldN (off n : Nat) : List Int := (List.range n).map fun i => ((off + i : Nat) : Int)
theorem oldN_len (off n : Nat) : (oldN off n).length = n := by simp [oldN]
theorem oldN_app (off n m : Nat) : oldN off n ++ oldN (off + n) m = oldN off (n + m) := by
  apply List.ext_getElem?
  intro i
  unfold oldN
  by_cases h : i < n
  · rw [List.getElem?_append_left (by simpa using h), List.getElem?_map, List.getElem?_map, List.getElem?_range h, List.getElem?_range (by omega)]
  · rw [List.getElem?_append_right (by simpa using h), List.getElem?_map, List.getElem?_map]
    simp only [List.length_map, List.length_range]
    by_cases h2 : i < n + m
    · rw [List.getElem?_range (by omega), List.getElem?_range h2]
      simp only [Option.map_some]
      congr 2; omega
    · rw [List.getElem?_eq_none (by simp; omega), List.getElem?_eq_none (by simp; omega)]; rfl
def pairR (rs : List (List Sd)) (r : Nat) : PR := (can1 (rg rs r), rot (oldN (tot (rs.take r)) (rg rs r).length) (atS (rg rs r)))
def pairs (rs : List (List Sd)) : Nat → List PR
  | 0 => []
  | r + 1 => pairs rs r ++ [pairR rs r]
def swap2 : List PR → List PR
  | [p, q] => if cmpS (sd q.1 0) (sd p.1 0) < 0 then [q, p] else [p, q]
  | l => l
def sort2 : List PR → List PR
  | [] => []
  | p :: t => p :: swap2 t
def canP (rs : List (List Sd)) : List PR := sort2 (pairs rs rs.length)
def canR (rs : List (List Sd)) : List (List Sd) := (canP rs).map (·.1)
def olds (rs : List (List Sd)) : List Int := (canP rs).flatMap (·.2)
theorem swap2_perm : ∀ l : List PR, (swap2 l).Perm l
  | [] => .refl _
  | [_] => .refl _
  | [p, q] => by
    show (if _ then [q, p] else [p, q]).Perm _
    split
    · exact .swap ..
    · exact .refl _
  | _ :: _ :: _ :: _ => .refl _
theorem sort2_perm : ∀ l : List PR, (sort2 l).Perm l
  | [] => .refl _
  | _ :: t => (swap2_perm t).cons _
theorem rot_perm {α : Type} (l : List α) (k : Nat) : (rot l k).Perm l := by
  unfold rot
  conv => rhs; rw [← List.take_append_drop k l]
  exact List.perm_append_comm
theorem pairs_olds (rs : List (List Sd)) : ∀ n, n ≤ rs.length → ((pairs rs n).flatMap (·.2)).Perm (oldN 0 (tot (rs.take n)))
  | 0, _ => by simp [pairs, oldN, tot]
  | n + 1, h => by
    have ih := pairs_olds rs n (by omega)
    have e := oldN_app 0 (tot (rs.take n)) (rg rs n).length
    rw [Nat.zero_add] at e
    rw [tot_take_succ (show n < rs.length by omega), ← e]
    show ((pairs rs n ++ [pairR rs n]).flatMap (·.2)).Perm _
    rw [List.flatMap_append]
    refine ih.append ?_
    show ([pairR rs n].flatMap (·.2)).Perm _
    simp only [List.flatMap_cons, List.flatMap_nil, List.append_nil]
    exact rot_perm ..
theorem olds_perm (rs : List (List Sd)) : (olds rs).Perm (oldN 0 (tot rs)) := by
  have h := pairs_olds rs rs.length (Nat.le_refl _)
  rw [List.take_length] at h
  exact ((sort2_perm _).flatMap_right _).trans h
/-- The side with an old number. -/
def oldS (rs : List (List Sd)) (o : Int) : Sd := rs.flatten.getD o.toNat default
theorem rot_map {α β : Type} (f : α → β) (l : List α) (k : Nat) : rot (l.map f) k = (rot l k).map f := by simp [rot]
theorem ring_old {rs : List (List Sd)} {r : Nat} (hr : r < rs.length) : rg rs r = (oldN (tot (rs.take r)) (rg rs r).length).map (oldS rs) := by
  apply List.ext_getElem?
  intro i
  unfold oldN
  rw [List.map_map, List.getElem?_map]
  by_cases h : i < (rg rs r).length
  · rw [List.getElem?_range h, sd_get h]
    show some _ = some (oldS rs ((tot (rs.take r) + i : Nat) : Int))
    congr 1
    unfold oldS
    rw [show (((tot (rs.take r) + i : Nat) : Int)).toNat = tot (rs.take r) + i by omega]
    have e : rs.flatten = (rs.take r).flatten ++ (rg rs r ++ (rs.drop (r + 1)).flatten) := by
      have h2 : rs = rs.take r ++ (rg rs r :: rs.drop (r + 1)) := by
        conv => lhs; rw [← List.take_append_drop r rs, List.drop_eq_getElem_cons hr]
        simp [rg, hr]
      conv => lhs; rw [h2]
      simp
    rw [e, List.getD_eq_getElem?_getD, List.getElem?_append_right (by rw [flat_len]; omega), flat_len, Nat.add_sub_cancel_left, List.getElem?_append_left h, sd_get h]; rfl
  · rw [List.getElem?_eq_none (by omega), List.getElem?_eq_none (by simpa using h)]; rfl
theorem pairs_old {rs : List (List Sd)} : ∀ n, n ≤ rs.length → ∀ p ∈ pairs rs n, p.1 = p.2.map (oldS rs)
  | 0, _, p, h => by cases h
  | n + 1, hn, p, h => by
    rcases List.mem_append.1 h with h | h
    · exact pairs_old n (by omega) p h
    · obtain rfl := List.mem_singleton.1 h
      show rot (rg rs n) _ = (rot _ _).map _
      rw [← rot_map, ← ring_old (by omega)]
theorem flat_old (f : Int → Sd) : ∀ ps : List PR, (∀ p ∈ ps, p.1 = p.2.map f) → (ps.map (·.1)).flatten = (ps.flatMap (·.2)).map f
  | [], _ => rfl
  | p :: ps, h => by
    simp only [List.map_cons, List.flatten_cons, List.flatMap_cons, List.map_append]
    rw [h p (List.mem_cons_self ..), flat_old f ps fun q hq => h q (List.mem_cons_of_mem _ hq)]
/-- Each side of the canonical plan is the one with its old number. -/
theorem canR_flat (rs : List (List Sd)) : (canR rs).flatten = (olds rs).map (oldS rs) :=
  flat_old _ _ fun p hp => pairs_old _ (Nat.le_refl _) p ((sort2_perm _).mem_iff.1 hp)
theorem canR_tot (rs : List (List Sd)) : tot (canR rs) = tot rs := by
  rw [← flat_len, canR_flat, List.length_map, (olds_perm rs).length_eq, oldN_len]
end Go.Proofs.YtnpfkmbcejgnjaaGreatDoor
namespace Go.Proofs.YtnpfkmbcejgnjaaGreatDoor
open Go Go.RowKit Go.Am
theorem rings3 {rs : List (List Sd)} (hc : chk rs = 0) (h12 : tot rs ≤ 12) : rs.length = 1 ∨ rs.length = 2 ∨ rs.length = 3 := by
  have h4 : ∀ l ∈ rs, 4 ≤ l.length := fun l hl => shp_len ((chk_parts hc).2.1 l hl)
  have h0 := (chk_ne hc).2.2
  match rs, h4, h0, h12 with
  | [], _, h0, _ => exact absurd rfl h0
  | [_], _, _, _ => exact .inl rfl
  | [_, _], _, _, _ => exact .inr (.inl rfl)
  | [_, _, _], _, _, _ => exact .inr (.inr rfl)
  | a :: b :: c :: d :: t, h4, _, h12 =>
    have h1 := h4 a (by simp)
    have h2 := h4 b (by simp)
    have h3 := h4 c (by simp)
    have h5 := h4 d (by simp)
    simp only [tot, List.map_cons, List.sum_cons] at h12
    omega
theorem pairs1 (rs : List (List Sd)) : pairs rs 1 = [pairR rs 0] := rfl
theorem pairs2 (rs : List (List Sd)) : pairs rs 2 = [pairR rs 0, pairR rs 1] := rfl
theorem pairs3 (rs : List (List Sd)) : pairs rs 3 = [pairR rs 0, pairR rs 1, pairR rs 2] := rfl
def c1 (rs : List (List Sd)) (r : Nat) : List Sd := can1 (rg rs r)
theorem canR_1 {rs : List (List Sd)} (h : rs.length = 1) : canR rs = [c1 rs 0] := by
  unfold canR canP
  rw [h]; rfl
theorem canR_2 {rs : List (List Sd)} (h : rs.length = 2) : canR rs = [c1 rs 0, c1 rs 1] := by
  unfold canR canP
  rw [h]; rfl
theorem canR_3 {rs : List (List Sd)} (h : rs.length = 3) : canR rs = if cmpS (sd (c1 rs 2) 0) (sd (c1 rs 1) 0) < 0 then [c1 rs 0, c1 rs 2, c1 rs 1] else [c1 rs 0, c1 rs 1, c1 rs 2] := by
  unfold canR canP
  rw [h, pairs3]
  show (pairR rs 0 :: (if cmpS (sd (c1 rs 2) 0) (sd (c1 rs 1) 0) < 0 then [pairR rs 2, pairR rs 1] else [pairR rs 1, pairR rs 2])).map (·.1) = _
  split <;> rfl
theorem at_lt {rs : List (List Sd)} (hc : chk rs = 0) {r : Nat} (hr : r < rs.length) : atS (rg rs r) < (rg rs r).length :=
  (ex_min (ring_dist hc hr) (List.length_pos_iff.2 ((chk_ne hc).1 _ (List.mem_of_getElem? (rg_get hr))))).1
def sw (r : Nat) : Nat := if r = 1 then 2 else if r = 2 then 1 else r
/-- Three rings at most, perhaps two of them exchanged. -/
theorem sim_mk {rs rs' : List (List Sd)} {κ : Nat → Nat} (τ : Nat → Nat) (hτ : (∀ r, τ r = r) ∨ (τ = sw ∧ rs.length = 3)) (hlen : rs'.length = rs.length) (hring : ∀ r, r < rs.length → rg rs' r = rot (rg rs (τ r)) (κ r)) (hk : ∀ r, r < rs.length → κ r < (rg rs (τ r)).length) (ht : tot rs' = tot rs) : Sim rs rs' τ κ := by
  rcases hτ with h | ⟨rfl, h3⟩
  · exact ⟨hlen, hring, hk, fun r hr => by rw [h]; exact hr, fun r s _ _ e => by rw [h, h] at e; exact e, fun r hr => ⟨r, hr, h r⟩, fun r _ => by rw [h], ht⟩
  · refine ⟨hlen, hring, hk, fun r hr => ?_, fun r s hr hs e => ?_, fun r hr => ?_, fun r hr => ?_, ht⟩
    · unfold sw; split <;> first | omega | (split <;> omega)
    · unfold sw at e
      by_cases h1 : r = 1 <;> by_cases h2 : s = 1 <;> by_cases h4 : r = 2 <;> by_cases h5 : s = 2 <;> simp [h1, h2, h4, h5] at e <;> omega
    · refine ⟨sw r, ?_, ?_⟩
      · unfold sw; split <;> first | omega | (split <;> omega)
      · by_cases h1 : r = 1
        · subst h1; rfl
        · by_cases h2 : r = 2
          · subst h2; rfl
          · unfold sw; simp [h1, h2]
    · unfold sw
      by_cases h1 : r = 1
      · subst h1; simp
      · by_cases h2 : r = 2
        · subst h2; simp
        · simp [h1, h2]
theorem canR_sim {rs : List (List Sd)} (hc : chk rs = 0) (h12 : tot rs ≤ 12) : ∃ τ κ, Sim rs (canR rs) τ κ := by
  have ht := canR_tot rs
  rcases rings3 hc h12 with h | h | h
  · refine ⟨id, fun r => atS (rg rs r), sim_mk id (.inl fun _ => rfl) (by rw [canR_1 h, h]; rfl) (fun r hr => ?_) (fun r hr => at_lt hc hr) ht⟩
    rw [canR_1 h]
    obtain rfl : r = 0 := by omega
    rfl
  · refine ⟨id, fun r => atS (rg rs r), sim_mk id (.inl fun _ => rfl) (by rw [canR_2 h, h]; rfl) (fun r hr => ?_) (fun r hr => at_lt hc hr) ht⟩
    rw [canR_2 h]
    rcases (show r = 0 ∨ r = 1 by omega) with rfl | rfl <;> rfl
  · by_cases hs : cmpS (sd (c1 rs 2) 0) (sd (c1 rs 1) 0) < 0
    · have e : canR rs = [c1 rs 0, c1 rs 2, c1 rs 1] := by rw [canR_3 h, if_pos hs]
      refine ⟨sw, fun r => atS (rg rs (sw r)), sim_mk sw (.inr ⟨rfl, h⟩) (by rw [e, h]; rfl) (fun r hr => ?_) (fun r hr => at_lt hc ?_) ht⟩
      · rw [e]
        rcases (show r = 0 ∨ r = 1 ∨ r = 2 by omega) with rfl | rfl | rfl <;> rfl
      · rw [h] at hr ⊢
        rcases (show r = 0 ∨ r = 1 ∨ r = 2 by omega) with rfl | rfl | rfl <;> decide
    · have e : canR rs = [c1 rs 0, c1 rs 1, c1 rs 2] := by rw [canR_3 h, if_neg hs]
      refine ⟨id, fun r => atS (rg rs r), sim_mk id (.inl fun _ => rfl) (by rw [e, h]; rfl) (fun r hr => ?_) (fun r hr => at_lt hc hr) ht⟩
      rw [e]
      rcases (show r = 0 ∨ r = 1 ∨ r = 2 by omega) with rfl | rfl | rfl <;> rfl
theorem canR_chk {rs : List (List Sd)} (hc : chk rs = 0) (h12 : tot rs ≤ 12) : chk (canR rs) = 0 := by
  obtain ⟨τ, κ, S⟩ := canR_sim hc h12
  exact chk_sim hc S
theorem can1_can1 {rs : List (List Sd)} (hc : chk rs = 0) {r : Nat} (hr : r < rs.length) : can1 (c1 rs r) = c1 rs r := can1_rot (ring_dist hc hr) (at_lt hc hr)
theorem at_c1 {rs : List (List Sd)} (hc : chk rs = 0) {r : Nat} (hr : r < rs.length) : atS (c1 rs r) = 0 := at_can1 (ring_dist hc hr) (Nat.lt_of_le_of_lt (Nat.zero_le _) (at_lt hc hr))
theorem cmpS_swap {a b : Sd} (h : cmpS a b < 0) : ¬ cmpS b a < 0 := fun h' => by
  have h1 := cmpS_neg.1 h
  have h2 := cmpS_neg.1 h'
  omega
/-- The canonical plan is in order. -/
theorem canR_order {rs : List (List Sd)} (hc : chk rs = 0) (h12 : tot rs ≤ 12) : (canR rs).length = rs.length ∧ (∀ r, r < rs.length → can1 (rg (canR rs) r) = rg (canR rs) r ∧ atS (rg (canR rs) r) = 0) ∧ (rs.length = 3 → ¬ cmpS (sd (rg (canR rs) 2) 0) (sd (rg (canR rs) 1) 0) < 0) := by
  rcases rings3 hc h12 with h | h | h
  · rw [canR_1 h, h]
    refine ⟨rfl, fun r hr => ?_, fun h => by omega⟩
    obtain rfl : r = 0 := by omega
    exact ⟨can1_can1 hc (by omega), at_c1 hc (by omega)⟩
  · rw [canR_2 h, h]
    refine ⟨rfl, fun r hr => ?_, fun h => by omega⟩
    rcases (show r = 0 ∨ r = 1 by omega) with rfl | rfl
    · exact ⟨can1_can1 hc (by omega), at_c1 hc (by omega)⟩
    · exact ⟨can1_can1 hc (by omega), at_c1 hc (by omega)⟩
  · by_cases hs : cmpS (sd (c1 rs 2) 0) (sd (c1 rs 1) 0) < 0
    · rw [canR_3 h, if_pos hs, h]
      refine ⟨rfl, fun r hr => ?_, fun _ => cmpS_swap hs⟩
      rcases (show r = 0 ∨ r = 1 ∨ r = 2 by omega) with rfl | rfl | rfl
      · exact ⟨can1_can1 hc (by omega), at_c1 hc (by omega)⟩
      · exact ⟨can1_can1 hc (by omega), at_c1 hc (by omega)⟩
      · exact ⟨can1_can1 hc (by omega), at_c1 hc (by omega)⟩
    · rw [canR_3 h, if_neg hs, h]
      refine ⟨rfl, fun r hr => ?_, fun _ => hs⟩
      rcases (show r = 0 ∨ r = 1 ∨ r = 2 by omega) with rfl | rfl | rfl
      · exact ⟨can1_can1 hc (by omega), at_c1 hc (by omega)⟩
      · exact ⟨can1_can1 hc (by omega), at_c1 hc (by omega)⟩
      · exact ⟨can1_can1 hc (by omega), at_c1 hc (by omega)⟩
theorem list3 {rs : List (List Sd)} : (rs.length = 1 → rs = [rg rs 0]) ∧ (rs.length = 2 → rs = [rg rs 0, rg rs 1]) ∧ (rs.length = 3 → rs = [rg rs 0, rg rs 1, rg rs 2]) := by
  refine ⟨fun h => ?_, fun h => ?_, fun h => ?_⟩
  · match rs, h with
    | [_], _ => rfl
  · match rs, h with
    | [_, _], _ => rfl
  · match rs, h with
    | [_, _, _], _ => rfl
/-- It is its own canonical plan. -/
theorem canR_canR {rs : List (List Sd)} (hc : chk rs = 0) (h12 : tot rs ≤ 12) : canR (canR rs) = canR rs := by
  obtain ⟨hl, hcan, hord⟩ := canR_order hc h12
  generalize canR rs = c at hl hcan hord ⊢
  rcases rings3 hc h12 with h | h | h
  · rw [canR_1 (by omega), show c1 c 0 = rg c 0 from (hcan 0 (by omega)).1]
    exact (list3.1 (by omega)).symm
  · rw [canR_2 (by omega), show c1 c 0 = rg c 0 from (hcan 0 (by omega)).1, show c1 c 1 = rg c 1 from (hcan 1 (by omega)).1]
    exact (list3.2.1 (by omega)).symm
  · rw [canR_3 (by omega), show c1 c 0 = rg c 0 from (hcan 0 (by omega)).1, show c1 c 1 = rg c 1 from (hcan 1 (by omega)).1, show c1 c 2 = rg c 2 from (hcan 2 (by omega)).1, if_neg (hord h)]
    exact (list3.2.2 (by omega)).symm
theorem pairs_id {rs : List (List Sd)} : ∀ n, n ≤ rs.length → (∀ r, r < n → atS (rg rs r) = 0) → (pairs rs n).flatMap (·.2) = oldN 0 (tot (rs.take n))
  | 0, _, _ => by simp [pairs, oldN, tot]
  | n + 1, h, ha => by
    have ih := pairs_id n (by omega) fun r hr => ha r (by omega)
    have e := oldN_app 0 (tot (rs.take n)) (rg rs n).length
    rw [Nat.zero_add] at e
    rw [tot_take_succ (show n < rs.length by omega), ← e]
    show ((pairs rs n ++ [pairR rs n]).flatMap (·.2)) = _
    rw [List.flatMap_append, ih]
    congr 1
    show rot (oldN (tot (rs.take n)) (rg rs n).length) (atS (rg rs n)) ++ [] = _
    rw [ha n (by omega), rot_zero, List.append_nil]
/-- .. with its own numbers. -/
theorem olds_canR {rs : List (List Sd)} (hc : chk rs = 0) (h12 : tot rs ≤ 12) : olds (canR rs) = oldN 0 (tot rs) := by
  obtain ⟨hl, hcan, hord⟩ := canR_order hc h12
  have ht := canR_tot rs
  generalize canR rs = c at hl hcan hord ht ⊢
  have hs : canP c = pairs c c.length := by
    unfold canP
    rcases rings3 hc h12 with h | h | h
    · rw [show c.length = 1 by omega]; rfl
    · rw [show c.length = 2 by omega]; rfl
    · rw [show c.length = 3 by omega, pairs3]
      show (pairR c 0 :: (if cmpS (sd (can1 (rg c 2)) 0) (sd (can1 (rg c 1)) 0) < 0 then [pairR c 2, pairR c 1] else [pairR c 1, pairR c 2])) = _
      rw [(hcan 1 (by omega)).1, (hcan 2 (by omega)).1, if_neg (hord h)]
  unfold olds
  rw [hs, pairs_id _ (Nat.le_refl _) fun r hr => (hcan r (by omega)).2, List.take_length, ht]
/-! ### Rings begun elsewhere, courtyards the other way round -/
def othR (rs : List (List Sd)) (m : Nat) : List (List Sd) := (rs.map fun l => rot l (m % l.length)).take 1 ++ ((rs.map fun l => rot l (m % l.length)).drop 1).reverse
def r1 (rs : List (List Sd)) (m r : Nat) : List Sd := rot (rg rs r) (m % (rg rs r).length)
theorem othR_1 {rs : List (List Sd)} (m : Nat) (h : rs.length = 1) : othR rs m = [r1 rs m 0] := by
  match rs, h with
  | [_], _ => rfl
theorem othR_2 {rs : List (List Sd)} (m : Nat) (h : rs.length = 2) : othR rs m = [r1 rs m 0, r1 rs m 1] := by
  match rs, h with
  | [_, _], _ => rfl
theorem othR_3 {rs : List (List Sd)} (m : Nat) (h : rs.length = 3) : othR rs m = [r1 rs m 0, r1 rs m 2, r1 rs m 1] := by
  match rs, h with
  | [_, _, _], _ => rfl
theorem othR_tot {rs : List (List Sd)} (m : Nat) : tot (othR rs m) = tot rs := by
  have hm : ∀ l : List (List Sd), tot (l.map fun l => rot l (m % l.length)) = tot l := fun l => by
    unfold tot
    rw [List.map_map]
    congr 1
    exact List.map_congr_left fun x _ => rot_len ..
  have hr : ∀ l : List (List Sd), tot l.reverse = tot l := fun l => by
    unfold tot
    rw [List.map_reverse, List.sum_reverse]
  have ha : ∀ l k : List (List Sd), tot (l ++ k) = tot l + tot k := fun l k => by
    unfold tot
    rw [List.map_append, List.sum_append]
  unfold othR
  rw [ha, hr, ← ha, List.take_append_drop, hm]
theorem othR_sim {rs : List (List Sd)} (hc : chk rs = 0) (h12 : tot rs ≤ 12) (m : Nat) : ∃ τ κ, Sim rs (othR rs m) τ κ := by
  have ht := othR_tot (rs := rs) m
  have hn : ∀ r, r < rs.length → m % (rg rs r).length < (rg rs r).length := fun r hr => Nat.mod_lt _ (Nat.lt_of_le_of_lt (Nat.zero_le _) (at_lt hc hr))
  rcases rings3 hc h12 with h | h | h
  · refine ⟨id, fun r => m % (rg rs r).length, sim_mk id (.inl fun _ => rfl) (by rw [othR_1 m h, h]; rfl) (fun r hr => ?_) (fun r hr => hn r hr) ht⟩
    rw [othR_1 m h]
    obtain rfl : r = 0 := by omega
    rfl
  · refine ⟨id, fun r => m % (rg rs r).length, sim_mk id (.inl fun _ => rfl) (by rw [othR_2 m h, h]; rfl) (fun r hr => ?_) (fun r hr => hn r hr) ht⟩
    rw [othR_2 m h]
    rcases (show r = 0 ∨ r = 1 by omega) with rfl | rfl <;> rfl
  · refine ⟨sw, fun r => m % (rg rs (sw r)).length, sim_mk sw (.inr ⟨rfl, h⟩) (by rw [othR_3 m h, h]; rfl) (fun r hr => ?_) (fun r hr => hn _ ?_) ht⟩
    · rw [othR_3 m h]
      rcases (show r = 0 ∨ r = 1 ∨ r = 2 by omega) with rfl | rfl | rfl <;> rfl
    · rw [h] at hr ⊢
      rcases (show r = 0 ∨ r = 1 ∨ r = 2 by omega) with rfl | rfl | rfl <;> decide
theorem othR_chk {rs : List (List Sd)} (hc : chk rs = 0) (h12 : tot rs ≤ 12) (m : Nat) : chk (othR rs m) = 0 := by
  obtain ⟨τ, κ, S⟩ := othR_sim hc h12 m
  exact chk_sim hc S
theorem c1_first {rs : List (List Sd)} (hc : chk rs = 0) {r : Nat} (hr : r < rs.length) : sd (c1 rs r) 0 = sd (rg rs r) (atS (rg rs r)) := by
  have h := at_lt hc hr
  unfold c1 can1
  rw [sd_rot h (by omega), Nat.add_zero, Nat.mod_eq_of_lt h]
/-- The canonical plan does not depend on them. -/
theorem canR_oth {rs : List (List Sd)} (hc : chk rs = 0) (h12 : tot rs ≤ 12) (m : Nat) : canR (othR rs m) = canR rs := by
  have hn : ∀ r, r < rs.length → m % (rg rs r).length < (rg rs r).length := fun r hr => Nat.mod_lt _ (Nat.lt_of_le_of_lt (Nat.zero_le _) (at_lt hc hr))
  have hcn : ∀ r, r < rs.length → can1 (r1 rs m r) = c1 rs r := fun r hr => can1_rot (ring_dist hc hr) (hn r hr)
  rcases rings3 hc h12 with h | h | h
  · rw [othR_1 m h, canR_1 rfl, canR_1 h, ← hcn 0 (by omega)]; rfl
  · rw [othR_2 m h, canR_2 rfl, canR_2 h, ← hcn 0 (by omega), ← hcn 1 (by omega)]; rfl
  · rw [othR_3 m h, canR_3 rfl, canR_3 h]
    have e0 : c1 [r1 rs m 0, r1 rs m 2, r1 rs m 1] 0 = c1 rs 0 := hcn 0 (by omega)
    have e1 : c1 [r1 rs m 0, r1 rs m 2, r1 rs m 1] 1 = c1 rs 2 := hcn 2 (by omega)
    have e2 : c1 [r1 rs m 0, r1 rs m 2, r1 rs m 1] 2 = c1 rs 1 := hcn 1 (by omega)
    rw [e0, e1, e2]
    have hd := corner_apart hc (r := 1) (s := 2) (by omega) (by omega) (by decide) (at_lt hc (r := 1) (by omega)) (at_lt hc (r := 2) (by omega))
    rw [← c1_first hc (by omega), ← c1_first hc (by omega)] at hd
    by_cases hs : cmpS (sd (c1 rs 2) 0) (sd (c1 rs 1) 0) < 0
    · rw [if_pos hs, if_neg (cmpS_swap hs)]
    · have hs2 : cmpS (sd (c1 rs 1) 0) (sd (c1 rs 2) 0) < 0 := by
        rcases cmpS_val (sd (c1 rs 2) 0) (sd (c1 rs 1) 0) with ⟨_, e3⟩ | ⟨h4, _⟩ | ⟨h4, _⟩
        · exact absurd (show cmpS (sd (c1 rs 2) 0) (sd (c1 rs 1) 0) < 0 by rw [e3]; decide) hs
        · exact cmpS_neg.2 (by omega)
        · exact absurd ⟨h4.1.symm, h4.2.symm⟩ hd
      rw [if_neg hs, if_pos hs2]
end Go.Proofs.YtnpfkmbcejgnjaaGreatDoor
