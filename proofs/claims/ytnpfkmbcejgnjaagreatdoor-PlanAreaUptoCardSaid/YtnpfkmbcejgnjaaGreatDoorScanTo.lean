/-
  Plain facts: the numbers that the scan of a plan goes through.
-/
import Derived.Test.YtnpfkmbcejgnjaaGreatDoorAreaScan
import Derived.Test.YtnpfkmbcejgnjaaGreatDoorSortAt
namespace Go.Proofs.YtnpfkmbcejgnjaaGreatDoor
open Go Go.RowKit Go.Am
def ysUp (l : List Sd) : Nat → List Int
  | 0 => []
  | i + 1 => ysUp l i ++ [(sd l i).y]
def ysRs (rs : List (List Sd)) : Nat → List Int
  | 0 => []
  | r + 1 => ysRs rs r ++ ysUp (rg rs r) (rg rs r).length
theorem len_ysUp (l : List Sd) : ∀ i, (ysUp l i).length = i
  | 0 => rfl
  | i + 1 => by show (_ ++ _ : List Int).length = _; rw [List.length_append, len_ysUp l i]; rfl
theorem len_ysRs (rs : List (List Sd)) : ∀ n, n ≤ rs.length → (ysRs rs n).length = tot (rs.take n)
  | 0, _ => by simp [ysRs, tot]
  | n + 1, h => by
    rw [tot_take_succ (show n < rs.length by omega)]
    show (_ ++ _ : List Int).length = _
    rw [List.length_append, len_ysRs rs n (by omega), len_ysUp]
theorem mem_ysUp {l : List Sd} {e : Int} : ∀ {i}, e ∈ ysUp l i ↔ ∃ k, k < i ∧ e = (sd l k).y
  | 0 => ⟨fun h => (by cases h), fun ⟨k, hk, _⟩ => absurd hk (Nat.not_lt_zero _)⟩
  | i + 1 => by
    constructor
    · intro h
      rcases List.mem_append.1 h with h | h
      · obtain ⟨k, hk, e⟩ := mem_ysUp.1 h
        exact ⟨k, by omega, e⟩
      · exact ⟨i, by omega, List.mem_singleton.1 h⟩
    · rintro ⟨k, hk, rfl⟩
      by_cases e : k = i
      · subst e; exact List.mem_append_right _ (List.mem_singleton.2 rfl)
      · exact List.mem_append_left _ (mem_ysUp.2 ⟨k, by omega, rfl⟩)
theorem mem_ysRs {rs : List (List Sd)} {e : Int} : ∀ {n}, e ∈ ysRs rs n ↔ ∃ r k, r < n ∧ k < (rg rs r).length ∧ e = (sd (rg rs r) k).y
  | 0 => ⟨fun h => (by cases h), fun ⟨k, _, hk, _⟩ => absurd hk (Nat.not_lt_zero _)⟩
  | n + 1 => by
    constructor
    · intro h
      rcases List.mem_append.1 h with h | h
      · obtain ⟨r, k, hr, hk, e⟩ := mem_ysRs.1 h
        exact ⟨r, k, by omega, hk, e⟩
      · obtain ⟨k, hk, e⟩ := mem_ysUp.1 h
        exact ⟨n, k, by omega, hk, e⟩
    · rintro ⟨r, k, hr, hk, rfl⟩
      by_cases e : r = n
      · subst e; exact List.mem_append_right _ (mem_ysUp.2 ⟨k, hk, rfl⟩)
      · exact List.mem_append_left _ (mem_ysRs.2 ⟨r, k, by omega, hk, rfl⟩)
/-- The levels of corners. -/
def lev (rs : List (List Sd)) : List Int := lvs (ysRs rs rs.length)
def lv (rs : List (List Sd)) (i : Nat) : Int := (lev rs).getD i 0
theorem lv_mem {rs : List (List Sd)} {i : Nat} (h : i < (lev rs).length) : lv rs i ∈ ysRs rs rs.length := by
  rw [← (lvs_facts (ysRs rs rs.length)).2.1]
  unfold lv
  rw [List.getD_eq_getElem?_getD, List.getElem?_eq_getElem h]
  exact List.getElem_mem h
theorem lv_range {rs : List (List Sd)} (hin : allR rs) {i : Nat} (h : i < (lev rs).length) : 0 ≤ lv rs i ∧ lv rs i ≤ 65536 := by
  obtain ⟨r, k, hr, hk, e⟩ := mem_ysRs.1 (lv_mem h)
  rw [e]
  have := sd_inR (hin _ (List.mem_of_getElem? (rg_get hr))) hk
  exact ⟨this.2.2.1, this.2.2.2⟩
theorem lv_lt {rs : List (List Sd)} {i j : Nat} (h : i < j) (hj : j < (lev rs).length) : lv rs i < lv rs j := by
  have := List.pairwise_iff_getElem.1 (lvs_facts (ysRs rs rs.length)).1 i j (by unfold lev at hj; omega) hj h
  unfold lv lev
  rw [List.getD_eq_getElem?_getD, List.getD_eq_getElem?_getD, List.getElem?_eq_getElem (show i < (lvs (ysRs rs rs.length)).length by unfold lev at hj; omega), List.getElem?_eq_getElem (show j < (lvs (ysRs rs rs.length)).length from hj)]
  exact this
theorem lv_all {rs : List (List Sd)} {r k : Nat} (hr : r < rs.length) (hk : k < (rg rs r).length) : ∃ i, i < (lev rs).length ∧ (sd (rg rs r) k).y = lv rs i := by
  have h : (sd (rg rs r) k).y ∈ lev rs := ((lvs_facts (ysRs rs rs.length)).2.1 _).2 (mem_ysRs.2 ⟨r, k, hr, hk, rfl⟩)
  obtain ⟨i, hi, e⟩ := List.getElem_of_mem h
  refine ⟨i, hi, ?_⟩
  unfold lv
  rw [List.getD_eq_getElem?_getD, List.getElem?_eq_getElem hi, ← e]; rfl
theorem lv_gap {rs : List (List Sd)} {i : Nat} (hi : i + 1 < (lev rs).length) {r k : Nat} (hr : r < rs.length) (hk : k < (rg rs r).length) : (sd (rg rs r) k).y ≤ lv rs i ∨ lv rs (i + 1) ≤ (sd (rg rs r) k).y := by
  obtain ⟨j, hj, e⟩ := lv_all hr hk
  rw [e]
  by_cases h1 : j = i
  · subst h1; exact .inl (Int.le_refl _)
  by_cases h2 : j < i
  · have := lv_lt (rs := rs) h2 (by omega); left; omega
  by_cases h3 : j = i + 1
  · subst h3; exact .inr (Int.le_refl _)
  · have := lv_lt (show i + 1 < j by omega) hj; right; omega
/-- The upright sides that cross a slab, in order. -/
def xsS (rs : List (List Sd)) (i : Nat) : List Int := srt (xsRs rs (lv rs i) (lv rs (i + 1)) rs.length)
def widUp (l : List Int) (k : Nat) : Int := sumTo (fun j => l.getD (2 * j + 1) 0 - l.getD (2 * j) 0) k
theorem sumTo_front (f : Nat → Int) : ∀ n, sumTo f (n + 1) = f 0 + sumTo (fun i => f (i + 1)) n
  | 0 => by show (0 : Int) + f 0 = f 0 + 0; omega
  | n + 1 => by
    show sumTo f (n + 1) + f (n + 1) = f 0 + (sumTo (fun i => f (i + 1)) n + f (n + 1))
    rw [sumTo_front f n]; omega
theorem wid_up : ∀ l : List Int, wid l = widUp l (l.length / 2)
  | [] => rfl
  | [a] => by rw [show [a].length / 2 = 0 by simp]; rfl
  | a :: b :: l => by
    show b - a + wid l = widUp (a :: b :: l) ((l.length + 2) / 2)
    rw [show (l.length + 2) / 2 = l.length / 2 + 1 by omega]
    unfold widUp
    rw [sumTo_front, wid_up l]
    rfl
def areaTo (rs : List (List Sd)) (i : Nat) : Int := sumTo (fun j => rowN rs (lv rs j) * (lv rs (j + 1) - lv rs j)) i
theorem lev_pos {rs : List (List Sd)} (hc : chk rs = 0) : 0 < (lev rs).length := by
  obtain ⟨hne, _, h0⟩ := chk_ne hc
  have hR : 0 < rs.length := by
    cases rs with
    | nil => exact absurd rfl h0
    | cons => simp
  obtain ⟨i, hi, _⟩ := lv_all (k := 0) hR (List.length_pos_iff.2 (hne _ (List.mem_of_getElem? (rg_get hR))))
  omega
theorem areaTo_all {rs : List (List Sd)} (hc : chk rs = 0) : areaTo rs ((lev rs).length - 1) = areaN rs :=
  scan_area hc (lev_pos hc) (fun i hi => lv_lt (Nat.lt_succ_self i) hi) (fun _ hi => lv_range (chk_inR hc) hi) fun _ _ hr hk => lv_all hr hk
theorem lev_len (rs : List (List Sd)) : (lev rs).length ≤ tot rs := by
  have h1 := (lvs_facts (ysRs rs rs.length)).2.2
  rw [len_ysRs rs _ (Nat.le_refl _), List.take_length] at h1
  exact h1
theorem xsS_slab {rs : List (List Sd)} (hc : chk rs = 0) {i : Nat} (hi : i + 1 < (lev rs).length) : widUp (xsS rs i) ((xsS rs i).length / 2) = rowN rs (lv rs i) ∧ (xsS rs i).length % 2 = 0 := by
  obtain ⟨h1, h2⟩ := row_wid hc (lv_lt (Nat.lt_succ_self i) hi) (fun _ _ hr hk => lv_gap hi hr hk) (srt_perm _) (srt_sorted _)
  rw [wid_up] at h1
  exact ⟨h1, h2⟩
theorem xsS_len (rs : List (List Sd)) (i : Nat) : (xsS rs i).length ≤ tot rs := by
  unfold xsS
  rw [srt_len]
  have := len_xsRs rs (lv rs i) (lv rs (i + 1)) rs.length (Nat.le_refl _)
  rwa [List.take_length] at this
theorem xsS_range {rs : List (List Sd)} (hin : allR rs) (i k : Nat) : 0 ≤ (xsS rs i).getD k 0 ∧ (xsS rs i).getD k 0 ≤ 65536 := by
  by_cases h : k < (xsS rs i).length
  · rw [List.getD_eq_getElem?_getD, List.getElem?_eq_getElem h]
    exact mem_xsRs hin _ (Nat.le_refl _) _ ((srt_perm _).mem_iff.1 (List.getElem_mem h))
  · rw [List.getD_eq_getElem?_getD, List.getElem?_eq_none (by omega)]
    exact ⟨Int.le_refl _, by decide⟩
theorem widUp_bound {rs : List (List Sd)} (hin : allR rs) (i : Nat) : ∀ k : Nat, -(65536 * (k : Int)) ≤ widUp (xsS rs i) k ∧ widUp (xsS rs i) k ≤ 65536 * k
  | 0 => ⟨by show _ ≤ (0 : Int); omega, by show (0 : Int) ≤ _; omega⟩
  | k + 1 => by
    obtain ⟨h1, h2⟩ := widUp_bound hin i k
    have h3 := xsS_range hin i (2 * k + 1)
    have h4 := xsS_range hin i (2 * k)
    have e : widUp (xsS rs i) (k + 1) = widUp (xsS rs i) k + ((xsS rs i).getD (2 * k + 1) 0 - (xsS rs i).getD (2 * k) 0) := rfl
    rw [e]
    constructor <;> omega
theorem mul_bounds {u v : Int} {a b : Nat} (h1 : -(a : Int) ≤ u) (h2 : u ≤ a) (h3 : -(b : Int) ≤ v) (h4 : v ≤ b) : -((a * b : Nat) : Int) ≤ u * v ∧ u * v ≤ ((a * b : Nat) : Int) := by
  have h : (u * v).natAbs ≤ a * b := by
    rw [Int.natAbs_mul]
    exact Nat.mul_le_mul (by omega) (by omega)
  constructor <;> omega
theorem rowN_bound {rs : List (List Sd)} (hc : chk rs = 0) (y : Int) : 0 ≤ rowN rs y ∧ rowN rs y ≤ 65536 := by
  have h : ∀ n : Nat, 0 ≤ sumTo (fun x : Nat => Wt rs x y) n ∧ sumTo (fun x : Nat => Wt rs x y) n ≤ n := fun n => by
    induction n with
    | zero => exact ⟨Int.le_refl _, Int.le_refl _⟩
    | succ n ih =>
      have := Wt_01 hc (n : Nat) y
      show 0 ≤ sumTo _ n + Wt rs (n : Nat) y ∧ sumTo _ n + Wt rs (n : Nat) y ≤ _
      omega
  exact h 65536
theorem areaTo_bound {rs : List (List Sd)} (hc : chk rs = 0) : ∀ i, i < (lev rs).length → -(4294967296 * (i : Int)) ≤ areaTo rs i ∧ areaTo rs i ≤ 4294967296 * i
  | 0, _ => ⟨by show _ ≤ (0 : Int); omega, by show (0 : Int) ≤ _; omega⟩
  | i + 1, h => by
    obtain ⟨h1, h2⟩ := areaTo_bound hc i (by omega)
    have b1 := rowN_bound hc (lv rs i)
    have b2 := lv_range (chk_inR hc) (show i < (lev rs).length by omega)
    have b3 := lv_range (chk_inR hc) h
    have h3 := mul_bounds (u := rowN rs (lv rs i)) (v := lv rs (i + 1) - lv rs i) (a := 65536) (b := 65536) (by omega) (by omega) (by omega) (by omega)
    have e : areaTo rs (i + 1) = areaTo rs i + rowN rs (lv rs i) * (lv rs (i + 1) - lv rs i) := rfl
    rw [e]
    constructor <;> omega
/-- Up to a slab, and a pair of sides in it. -/
def areaAt (rs : List (List Sd)) (i k : Nat) : Int := areaTo rs i + widUp (xsS rs i) k * (lv rs (i + 1) - lv rs i)
theorem areaAt_zero (rs : List (List Sd)) (i : Nat) : areaAt rs i 0 = areaTo rs i := by
  unfold areaAt
  show _ + (0 : Int) * _ = _
  rw [Int.zero_mul, Int.add_zero]
theorem areaAt_all {rs : List (List Sd)} (hc : chk rs = 0) {i k : Nat} (hi : i + 1 < (lev rs).length) (h1 : 2 * k ≤ (xsS rs i).length) (h2 : (xsS rs i).length ≤ 2 * k + 1) : areaAt rs i k = areaTo rs (i + 1) := by
  obtain ⟨e, h3⟩ := xsS_slab hc hi
  have : k = (xsS rs i).length / 2 := by omega
  unfold areaAt
  rw [this, e]; rfl
theorem areaAt_step {rs : List (List Sd)} (hc : chk rs = 0) (h12 : tot rs ≤ 12) {i k : Nat} (hi : i + 1 < (lev rs).length) (hk : 2 * k + 1 < (xsS rs i).length) :
    w64 (areaAt rs i k + w64 (w64 ((xsS rs i).getD (2 * k + 1) 0 - (xsS rs i).getD (2 * k) 0) * w64 (lv rs (i + 1) - lv rs i))) = areaAt rs i (k + 1) := by
  have hin := chk_inR hc
  have b1 := xsS_range hin i (2 * k + 1)
  have b2 := xsS_range hin i (2 * k)
  have b3 := lv_range hin hi
  have b4 := lv_range hin (show i < (lev rs).length by omega)
  have b5 := xsS_len rs i
  have b6 := lev_len rs
  have b7 := widUp_bound hin i k
  have b8 := areaTo_bound hc i (by omega)
  have h3 := mul_bounds (u := (xsS rs i).getD (2 * k + 1) 0 - (xsS rs i).getD (2 * k) 0) (v := lv rs (i + 1) - lv rs i) (a := 65536) (b := 65536) (by omega) (by omega) (by omega) (by omega)
  have h4 := mul_bounds (u := widUp (xsS rs i) k) (v := lv rs (i + 1) - lv rs i) (a := 786432) (b := 65536) (by omega) (by omega) (by omega) (by omega)
  have e : areaAt rs i (k + 1) = areaAt rs i k + ((xsS rs i).getD (2 * k + 1) 0 - (xsS rs i).getD (2 * k) 0) * (lv rs (i + 1) - lv rs i) := by
    unfold areaAt
    have e2 : widUp (xsS rs i) (k + 1) = widUp (xsS rs i) k + ((xsS rs i).getD (2 * k + 1) 0 - (xsS rs i).getD (2 * k) 0) := rfl
    rw [e2, Int.add_mul]; omega
  rw [e]
  unfold areaAt
  generalize (xsS rs i).getD (2 * k + 1) 0 = x1 at *
  generalize (xsS rs i).getD (2 * k) 0 = x0 at *
  rw [w64_id (x := x1 - x0) (by omega) (by omega), w64_id (x := lv rs (i + 1) - lv rs i) (by omega) (by omega), w64_id (x := (x1 - x0) * (lv rs (i + 1) - lv rs i)) (by omega) (by omega), w64_id (by omega) (by omega)]
end Go.Proofs.YtnpfkmbcejgnjaaGreatDoor
