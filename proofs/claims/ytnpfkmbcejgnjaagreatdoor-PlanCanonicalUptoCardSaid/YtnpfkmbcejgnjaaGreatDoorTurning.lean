/-
  Plain facts: how often a closed line of sides parallel to the axes turns (by secants).
-/
import Derived.Test.YtnpfkmbcejgnjaaGreatDoorJordan
namespace Go.Proofs.YtnpfkmbcejgnjaaGreatDoor
open Go Go.RowKit Go.Am
/-- The eighth in which a vector lies. -/
def cl (x y : Int) : Int := if y = 0 then (if x > 0 then 0 else 4) else if y > 0 then (if x > 0 then 1 else if x = 0 then 2 else 3) else (if x < 0 then 5 else if x = 0 then 6 else 7)
def tn (x y u v : Int) : Int := (cl u v - cl x y + 3) % 8 - 3
def sg (a : Int) : Int := if a > 0 then 1 else if a = 0 then 0 else -1
theorem cl_r {x : Int} (y : Int) (h : x > 0) : (cl x y = 1 ∧ sg y = 1) ∨ (cl x y = 0 ∧ sg y = 0) ∨ (cl x y = 7 ∧ sg y = -1) := by
  unfold cl sg
  rcases Int.lt_trichotomy y 0 with h1 | h1 | h1
  · rw [if_neg (by omega), if_neg (by omega), if_neg (by omega), if_neg (by omega), if_neg (by omega), if_neg (by omega)]; omega
  · rw [if_pos h1, if_pos h, if_neg (by omega), if_pos h1]; omega
  · rw [if_neg (by omega), if_pos h1, if_pos h, if_pos h1]; omega
theorem cl_l {x : Int} (y : Int) (h : x < 0) : (cl x y = 3 ∧ sg y = 1) ∨ (cl x y = 4 ∧ sg y = 0) ∨ (cl x y = 5 ∧ sg y = -1) := by
  unfold cl sg
  rcases Int.lt_trichotomy y 0 with h1 | h1 | h1
  · rw [if_neg (by omega), if_neg (by omega), if_pos h, if_neg (by omega), if_neg (by omega)]; omega
  · rw [if_pos h1, if_neg (by omega), if_neg (by omega), if_pos h1]; omega
  · rw [if_neg (by omega), if_pos h1, if_neg (by omega), if_neg (by omega), if_pos h1]; omega
theorem cl_u (x : Int) {y : Int} (h : y > 0) : (cl x y = 1 ∧ sg x = 1) ∨ (cl x y = 2 ∧ sg x = 0) ∨ (cl x y = 3 ∧ sg x = -1) := by
  unfold cl sg
  rw [if_neg (by omega), if_pos h]
  rcases Int.lt_trichotomy x 0 with h1 | h1 | h1
  · rw [if_neg (by omega), if_neg (by omega), if_neg (by omega), if_neg (by omega)]; omega
  · rw [if_neg (by omega), if_pos h1, if_neg (by omega), if_pos h1]; omega
  · rw [if_pos h1, if_pos h1]; omega
theorem cl_d (x : Int) {y : Int} (h : y < 0) : (cl x y = 7 ∧ sg x = 1) ∨ (cl x y = 6 ∧ sg x = 0) ∨ (cl x y = 5 ∧ sg x = -1) := by
  unfold cl sg
  rw [if_neg (by omega), if_neg (by omega)]
  rcases Int.lt_trichotomy x 0 with h1 | h1 | h1
  · rw [if_pos h1, if_neg (by omega), if_neg (by omega)]; omega
  · rw [if_neg (by omega), if_pos h1, if_neg (by omega), if_pos h1]; omega
  · rw [if_neg (by omega), if_neg (by omega), if_pos h1]; omega
theorem tn_r {x y u v : Int} (h : x > 0) (h' : u > 0) : tn x y u v = sg v - sg y := by
  have h1 := cl_r y h
  have h2 := cl_r v h'
  unfold tn; omega
theorem tn_l {x y u v : Int} (h : x < 0) (h' : u < 0) : tn x y u v = sg y - sg v := by
  have h1 := cl_l y h
  have h2 := cl_l v h'
  unfold tn; omega
theorem tn_u {x y u v : Int} (h : y > 0) (h' : v > 0) : tn x y u v = sg x - sg u := by
  have h1 := cl_u x h
  have h2 := cl_u u h'
  unfold tn; omega
theorem tn_d {x y u v : Int} (h : y < 0) (h' : v < 0) : tn x y u v = sg u - sg x := by
  have h1 := cl_d x h
  have h2 := cl_d u h'
  unfold tn; omega
/-- Four vectors on one side of an axis: both ways round are as long. -/
theorem tn_sq {a b c d e f g h : Int} (H : (a > 0 ∧ c > 0 ∧ e > 0 ∧ g > 0) ∨ (a < 0 ∧ c < 0 ∧ e < 0 ∧ g < 0) ∨ (b > 0 ∧ d > 0 ∧ f > 0 ∧ h > 0) ∨ (b < 0 ∧ d < 0 ∧ f < 0 ∧ h < 0)) : tn a b c d + tn c d g h = tn a b e f + tn e f g h := by
  rcases H with ⟨h1, h2, h3, h4⟩ | ⟨h1, h2, h3, h4⟩ | ⟨h1, h2, h3, h4⟩ | ⟨h1, h2, h3, h4⟩
  · rw [tn_r h1 h2, tn_r h2 h4, tn_r h1 h3, tn_r h3 h4]; omega
  · rw [tn_l h1 h2, tn_l h2 h4, tn_l h1 h3, tn_l h3 h4]; omega
  · rw [tn_u h1 h2, tn_u h2 h4, tn_u h1 h3, tn_u h3 h4]; omega
  · rw [tn_d h1 h2, tn_d h2 h4, tn_d h1 h3, tn_d h3 h4]; omega
theorem cl_e {a : Int} (h : a > 0) : cl a 0 = 0 := by unfold cl; rw [if_pos rfl, if_pos h]
theorem cl_w {a : Int} (h : a < 0) : cl a 0 = 4 := by unfold cl; rw [if_pos rfl, if_neg (by omega)]
theorem cl_n {b : Int} (h : b > 0) : cl 0 b = 2 := by unfold cl; rw [if_neg (by omega), if_pos h, if_neg (by omega), if_pos rfl]
theorem cl_s {b : Int} (h : b < 0) : cl 0 b = 6 := by unfold cl; rw [if_neg (by omega), if_neg (by omega), if_neg (by omega), if_pos rfl]
theorem cl_ne {a b : Int} (h : a > 0) (h' : b > 0) : cl a b = 1 := by unfold cl; rw [if_neg (by omega), if_pos h', if_pos h]
theorem cl_nw {a b : Int} (h : a < 0) (h' : b > 0) : cl a b = 3 := by unfold cl; rw [if_neg (by omega), if_pos h', if_neg (by omega), if_neg (by omega)]
theorem cl_sw {a b : Int} (h : a < 0) (h' : b < 0) : cl a b = 5 := by unfold cl; rw [if_neg (by omega), if_neg (by omega), if_pos h]
theorem cl_se {a b : Int} (h : a > 0) (h' : b < 0) : cl a b = 7 := by unfold cl; rw [if_neg (by omega), if_neg (by omega), if_neg (by omega), if_neg (by omega)]
/-- A corner between a level and an upright side. -/
theorem tn_hv {a b : Int} (ha : a ≠ 0) (hb : b ≠ 0) : tn a 0 0 b = tn a 0 a b + tn a b 0 b ∧ ((a > 0 ∧ b > 0) ∨ (a < 0 ∧ b < 0) → tn a 0 0 b = 2) ∧ ((a > 0 ∧ b < 0) ∨ (a < 0 ∧ b > 0) → tn a 0 0 b = -2) := by
  unfold tn
  rcases Int.lt_or_gt_of_ne ha with h | h <;> rcases Int.lt_or_gt_of_ne hb with h' | h'
  · rw [cl_w h, cl_s h', cl_sw h h']; omega
  · rw [cl_w h, cl_n h', cl_nw h h']; omega
  · rw [cl_e h, cl_s h', cl_se h h']; omega
  · rw [cl_e h, cl_n h', cl_ne h h']; omega
theorem tn_vh {a b : Int} (ha : a ≠ 0) (hb : b ≠ 0) : tn 0 b a 0 = tn 0 b a b + tn a b a 0 ∧ ((a > 0 ∧ b > 0) ∨ (a < 0 ∧ b < 0) → tn 0 b a 0 = -2) ∧ ((a > 0 ∧ b < 0) ∨ (a < 0 ∧ b > 0) → tn 0 b a 0 = 2) := by
  unfold tn
  rcases Int.lt_or_gt_of_ne ha with h | h <;> rcases Int.lt_or_gt_of_ne hb with h' | h'
  · rw [cl_w h, cl_s h', cl_sw h h']; omega
  · rw [cl_w h, cl_n h', cl_nw h h']; omega
  · rw [cl_e h, cl_s h', cl_se h h']; omega
  · rw [cl_e h, cl_n h', cl_ne h h']; omega
/-- A vector that points up, or to the right. -/
theorem cl_up {x y : Int} (h : y > 0 ∨ (y = 0 ∧ x > 0)) : 0 ≤ cl x y ∧ cl x y ≤ 3 ∧ cl (-x) (-y) = cl x y + 4 := by
  rcases h with h | ⟨h, h'⟩
  · rcases Int.lt_trichotomy x 0 with h1 | h1 | h1
    · rw [cl_nw h1 h, cl_se (by omega) (by omega)]; omega
    · subst h1; rw [cl_n h, show -(0 : Int) = 0 from rfl, cl_s (by omega)]; omega
    · rw [cl_ne h1 h, cl_sw (by omega) (by omega)]; omega
  · subst h; rw [cl_e h', show -(0 : Int) = 0 from rfl, cl_w (by omega)]; omega
/-- A closed line from its lowest corner on (of several the leftmost). -/
structure Walk (n : Nat) (A B : Nat → Int) : Prop where
  n4 : 4 ≤ n
  clA : A n = A 0
  clB : B n = B 0
  side : ∀ i, i < n → (A (i + 1) = A i ∧ B (i + 1) ≠ B i) ∨ (B (i + 1) = B i ∧ A (i + 1) ≠ A i)
  alt : ∀ i, i + 1 < n → (A (i + 1) = A i ↔ B (i + 2) = B (i + 1))
  last : A n = A (n - 1) ↔ B 1 = B 0
  free : ∀ i j, i < j → j < n → j ≠ i + 1 → ¬ (i = 0 ∧ j + 1 = n) →
    (A i < A j ∧ A i < A (j + 1) ∧ A (i + 1) < A j ∧ A (i + 1) < A (j + 1)) ∨ (A i > A j ∧ A i > A (j + 1) ∧ A (i + 1) > A j ∧ A (i + 1) > A (j + 1)) ∨
    (B i < B j ∧ B i < B (j + 1) ∧ B (i + 1) < B j ∧ B (i + 1) < B (j + 1)) ∨ (B i > B j ∧ B i > B (j + 1) ∧ B (i + 1) > B j ∧ B (i + 1) > B (j + 1))
  low : ∀ i, i ≤ n → B 0 < B i ∨ (B 0 = B i ∧ A 0 ≤ A i)
section
variable {n : Nat} {A B : Nat → Int}
def Rt (A B : Nat → Int) (i j : Nat) : Int := tn (A j - A i) (B j - B i) (A (j + 1) - A i) (B (j + 1) - B i)
def Ct (A B : Nat → Int) (i j : Nat) : Int := tn (A j - A i) (B j - B i) (A j - A (i + 1)) (B j - B (i + 1))
/-- The turn at corner i + 1. -/
def Tt (A B : Nat → Int) (i : Nat) : Int := tn (A (i + 1) - A i) (B (i + 1) - B i) (A (i + 2) - A (i + 1)) (B (i + 2) - B (i + 1))
theorem Walk.square (w : Walk n A B) {i j : Nat} (h1 : i < j) (h2 : j < n) (h3 : j ≠ i + 1) (h4 : ¬ (i = 0 ∧ j + 1 = n)) : Rt A B i j + Ct A B i (j + 1) = Ct A B i j + Rt A B (i + 1) j := by
  unfold Rt Ct
  refine tn_sq ?_
  rcases w.free i j h1 h2 h3 h4 with h | h | h | h <;> omega
theorem Walk.tri (w : Walk n A B) {i : Nat} (h : i + 1 < n) : Tt A B i = Rt A B i (i + 1) + Ct A B i (i + 2) := by
  have h1 := w.side i (by omega)
  have h2 := w.side (i + 1) h
  have h3 := w.alt i h
  unfold Tt Rt Ct
  rcases h1 with ⟨e, hd⟩ | ⟨e, hd⟩
  · have e2 := h3.1 e
    have hd2 : A (i + 2) ≠ A (i + 1) := by rcases h2 with h | h; exact absurd e2 h.2; exact h.2
    rw [show A (i + 1) - A i = 0 by omega, show B (i + 1 + 1) - B i = B (i + 1) - B i by rw [show i + 1 + 1 = i + 2 from rfl, e2], show A (i + 1 + 1) - A i = A (i + 2) - A (i + 1) by rw [e], e2, e, Int.sub_self]
    exact (tn_vh (by omega) (by omega)).1
  · have e2 : A (i + 2) = A (i + 1) := by
      rcases h2 with h | h
      · exact h.1
      · exact absurd (h3.2 h.1) hd
    have hd2 : B (i + 2) ≠ B (i + 1) := by rcases h2 with h | h; exact h.2; exact absurd (h3.2 h.1) hd
    rw [show B (i + 1) - B i = 0 by omega, show A (i + 1 + 1) - A i = A (i + 1) - A i by rw [show i + 1 + 1 = i + 2 from rfl, e2], show B (i + 1 + 1) - B i = B (i + 2) - B (i + 1) by rw [e], e2, e, Int.sub_self]
    exact (tn_hv (by omega) (by omega)).1
theorem Walk.row (w : Walk n A B) {i : Nat} : ∀ m, i + 2 + m ≤ n → (i = 0 → 2 + m < n) → sumTo (fun t => Rt A B i (i + 2 + t)) m + Ct A B i (i + 2 + m) = Ct A B i (i + 2) + sumTo (fun t => Rt A B (i + 1) (i + 2 + t)) m
  | 0, _, _ => by show (0 : Int) + Ct A B i (i + 2) = Ct A B i (i + 2) + 0; omega
  | m + 1, h, h0 => by
    have h1 := w.row (i := i) m (by omega) (by omega)
    have h2 := w.square (i := i) (j := i + 2 + m) (by omega) (by omega) (by omega) (by omega)
    show sumTo (fun t => Rt A B i (i + 2 + t)) m + Rt A B i (i + 2 + m) + Ct A B i (i + 2 + m + 1) = Ct A B i (i + 2) + (sumTo (fun t => Rt A B (i + 1) (i + 2 + t)) m + Rt A B (i + 1) (i + 2 + m))
    omega
def Ft (n : Nat) (A B : Nat → Int) (i : Nat) : Int := sumTo (fun t => Rt A B i (i + 1 + t)) (n - 1 - i)
theorem Walk.step (w : Walk n A B) {i : Nat} (h1 : 1 ≤ i) (h2 : i + 1 < n) : Ft n A B i + Ct A B i n = Tt A B i + Ft n A B (i + 1) := by
  have h := w.row (i := i) (n - 2 - i) (by omega) (by omega)
  rw [show i + 2 + (n - 2 - i) = n by omega] at h
  have e := sumTo_succ (fun t => Rt A B i (i + 1 + t)) (n - 2 - i)
  rw [w.tri h2]
  unfold Ft
  rw [show n - 1 - i = n - 2 - i + 1 by omega, ← e, show n - 1 - (i + 1) = n - 2 - i by omega,
    sumTo_congr (f := fun t => Rt A B i (i + 1 + (t + 1))) (g := fun t => Rt A B i (i + 2 + t)) (n - 2 - i) (fun t _ => by rw [show i + 1 + (t + 1) = i + 2 + t by omega])]
  show _ + Rt A B i (i + 1 + 0) + _ = Rt A B i (i + 1) + Ct A B i (i + 2) + sumTo (fun t => Rt A B (i + 1) (i + 2 + t)) (n - 2 - i)
  rw [show i + 1 + 0 = i + 1 from rfl]
  omega
theorem Walk.steps (w : Walk n A B) : ∀ k, k + 2 ≤ n → Ft n A B 1 + sumTo (fun s => Ct A B (1 + s) n) k = sumTo (fun s => Tt A B (1 + s)) k + Ft n A B (1 + k)
  | 0, _ => by show _ + (0 : Int) = 0 + _; rw [show 1 + 0 = 1 from rfl]; omega
  | k + 1, h => by
    have h1 := w.steps k (by omega)
    have h2 := w.step (i := 1 + k) (by omega) (by omega)
    show _ + (sumTo (fun s => Ct A B (1 + s) n) k + Ct A B (1 + k) n) = sumTo (fun s => Tt A B (1 + s)) k + Tt A B (1 + k) + Ft n A B (1 + k + 1)
    omega
/-- All turns but the one at the first corner, by the secants at the first corner. -/
theorem Walk.sum (w : Walk n A B) : sumTo (Tt A B) (n - 1) = sumTo (fun t => Rt A B 0 (1 + t)) (n - 2) + Ct A B 0 (n - 1) + Rt A B 1 (n - 1) + sumTo (fun s => Ct A B (1 + s) n) (n - 2) := by
  have n4 := w.n4
  have h0 := w.row (i := 0) (n - 3) (by omega) (by omega)
  rw [show 0 + 2 + (n - 3) = n - 1 by omega] at h0
  have h1 := w.steps (n - 2) (by omega)
  have e0 : Ft n A B (1 + (n - 2)) = 0 := by unfold Ft; rw [show n - 1 - (1 + (n - 2)) = 0 by omega]; rfl
  have e1 : Ft n A B 1 = sumTo (fun t => Rt A B 1 (2 + t)) (n - 3) + Rt A B 1 (n - 1) := by
    unfold Ft
    rw [show n - 1 - 1 = n - 3 + 1 by omega]
    show sumTo (fun t => Rt A B 1 (1 + 1 + t)) (n - 3) + Rt A B 1 (1 + 1 + (n - 3)) = _
    rw [show 1 + 1 + (n - 3) = n - 1 by omega]
  have e2 := sumTo_succ (fun t => Rt A B 0 (1 + t)) (n - 3)
  rw [show n - 3 + 1 = n - 2 by omega] at e2
  rw [sumTo_congr (f := fun t => Rt A B 0 (1 + (t + 1))) (g := fun t => Rt A B 0 (0 + 2 + t)) (n - 3) (fun t _ => by rw [show 1 + (t + 1) = 0 + 2 + t by omega])] at e2
  have e3 := sumTo_succ (Tt A B) (n - 2)
  rw [show n - 2 + 1 = n - 1 by omega, sumTo_congr (f := fun i => Tt A B (i + 1)) (g := fun s => Tt A B (1 + s)) (n - 2) (fun s _ => by rw [Nat.add_comm])] at e3
  have e4 := w.tri (i := 0) (by omega)
  have e5 : sumTo (fun t => Rt A B (0 + 1) (0 + 2 + t)) (n - 3) = sumTo (fun t => Rt A B 1 (2 + t)) (n - 3) := sumTo_congr _ fun t _ => by rw [show 0 + 2 + t = 2 + t by omega]
  rw [e5] at h0
  rw [show Rt A B 0 (1 + 0) = Rt A B 0 1 from rfl] at e2
  rw [show Rt A B 0 (0 + 1) = Rt A B 0 1 from rfl] at e4
  omega
theorem Walk.up (w : Walk n A B) {j : Nat} (h1 : 1 ≤ j) (h2 : j < n) : B j - B 0 > 0 ∨ (B j - B 0 = 0 ∧ A j - A 0 > 0) := by
  have n4 := w.n4
  have hl := w.low j (by omega)
  have hne : ¬ (A j = A 0 ∧ B j = B 0) := fun ⟨ha, hb⟩ => by
    by_cases e1 : j = 1
    · subst e1; have := w.side 0 (by omega); simp only [Nat.zero_add] at this; omega
    by_cases e2 : j + 1 = n
    · have := w.side j h2
      rw [e2, w.clA, w.clB] at this; omega
    · have := w.free 0 j (by omega) h2 (by omega) (by omega)
      omega
  omega
theorem Walk.head (w : Walk n A B) : ∀ k, k + 2 ≤ n → sumTo (fun t => Rt A B 0 (1 + t)) k = cl (A (1 + k) - A 0) (B (1 + k) - B 0) - cl (A 1 - A 0) (B 1 - B 0)
  | 0, _ => by show (0 : Int) = _; rw [show 1 + 0 = 1 from rfl]; omega
  | k + 1, h => by
    have h1 := w.head k (by omega)
    have c1 := cl_up (w.up (j := 1 + k) (by omega) (by omega))
    have c2 := cl_up (w.up (j := 1 + k + 1) (by omega) (by omega))
    show sumTo (fun t => Rt A B 0 (1 + t)) k + Rt A B 0 (1 + k) = cl (A (1 + k + 1) - A 0) (B (1 + k + 1) - B 0) - _
    rw [h1]
    unfold Rt tn
    omega
theorem Walk.tail (w : Walk n A B) : ∀ k, k + 2 ≤ n → sumTo (fun s => Ct A B (1 + s) n) k = cl (A (1 + k) - A 0) (B (1 + k) - B 0) - cl (A 1 - A 0) (B 1 - B 0)
  | 0, _ => by show (0 : Int) = _; rw [show 1 + 0 = 1 from rfl]; omega
  | k + 1, h => by
    have h1 := w.tail k (by omega)
    have c1 := cl_up (w.up (j := 1 + k) (by omega) (by omega))
    have c2 := cl_up (w.up (j := 1 + k + 1) (by omega) (by omega))
    show sumTo (fun s => Ct A B (1 + s) n) k + Ct A B (1 + k) n = cl (A (1 + k + 1) - A 0) (B (1 + k + 1) - B 0) - _
    rw [h1]
    unfold Ct tn
    rw [w.clA, w.clB, show A 0 - A (1 + k) = -(A (1 + k) - A 0) by omega, show B 0 - B (1 + k) = -(B (1 + k) - B 0) by omega, show A 0 - A (1 + k + 1) = -(A (1 + k + 1) - A 0) by omega, show B 0 - B (1 + k + 1) = -(B (1 + k + 1) - B 0) by omega]
    omega
/-- The turns add up to a whole one, to the left if the first side goes to the right, else to the right. -/
theorem Walk.total (w : Walk n A B) : sumTo (Tt A B) (n - 1) + tn (A 0 - A (n - 1)) (B 0 - B (n - 1)) (A 1 - A 0) (B 1 - B 0) = if B 1 = B 0 then 8 else -8 := by
  have n4 := w.n4
  have h1 := w.head (n - 2) (by omega)
  have h2 := w.tail (n - 2) (by omega)
  rw [show 1 + (n - 2) = n - 1 by omega] at h1 h2
  rw [w.sum, h1, h2]
  have s0 := w.side 0 (by omega)
  simp only [Nat.zero_add] at s0
  have sl := w.side (n - 1) (by omega)
  rw [show n - 1 + 1 = n by omega, w.clA, w.clB] at sl
  have hl := w.last
  rw [w.clA] at hl
  have u1 := w.up (j := 1) (by omega) (by omega)
  have u2 := w.up (j := n - 1) (by omega) (by omega)
  unfold Ct Rt
  rw [show n - 1 + 1 = n by omega, w.clA, w.clB, show (0 : Nat) + 1 = 1 from rfl]
  generalize A (n - 1) = a at *
  generalize B (n - 1) = b at *
  by_cases e : B 1 = B 0
  · rw [if_pos e]
    have ea : A 0 = a := hl.2 e
    have p1 : A 1 - A 0 > 0 := by omega
    have p2 : b - B 0 > 0 := by omega
    have k1 := tn_vh (a := A 0 - A 1) (b := b - B 0) (by omega) (by omega)
    have k2 := k1.2.2 (.inr ⟨by omega, p2⟩)
    have k3 := (tn_vh (a := A 1 - A 0) (b := B 0 - b) (by omega) (by omega)).2.2 (.inl ⟨p1, by omega⟩)
    rw [show a - A 0 = 0 by omega, show a - A 1 = A 0 - A 1 by omega, e, Int.sub_self, show A 0 - a = 0 by omega, cl_n p2, cl_e p1]
    rw [k1.1] at k2
    omega
  · rw [if_neg e]
    have ea : A 0 ≠ a := fun h => e (hl.1 h)
    have eb : B 0 = b := by omega
    have e1 : A 1 = A 0 := by omega
    have p1 : B 1 - B 0 > 0 := by omega
    have p2 : a - A 0 > 0 := by omega
    have k1 := tn_hv (a := a - A 0) (b := B 0 - B 1) (by omega) (by omega)
    have k2 := k1.2.2 (.inl ⟨p2, by omega⟩)
    have k3 := (tn_hv (a := A 0 - a) (b := B 1 - B 0) (by omega) (by omega)).2.2 (.inr ⟨by omega, p1⟩)
    rw [show b - B 0 = 0 by omega, show b - B 1 = B 0 - B 1 by omega, e1, Int.sub_self, show B 0 - b = 0 by omega, cl_e p2, cl_n p1]
    rw [k1.1] at k2
    omega
end
end Go.Proofs.YtnpfkmbcejgnjaaGreatDoor
