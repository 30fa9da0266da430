/-
  Plain facts: closed lines of sides parallel to the axes that do not touch have an inside.
-/
import Derived.Test.YtnpfkmbcejgnjaaGreatDoorEven
namespace Go.Proofs.YtnpfkmbcejgnjaaGreatDoor
open Go Go.RowKit Go.Am
theorem sumTo_zero {f : Nat → Int} : ∀ n, (∀ i, i < n → f i = 0) → sumTo f n = 0
  | 0, _ => rfl
  | n + 1, h => by
    show sumTo f n + f n = 0
    rw [sumTo_zero n (fun i hi => h i (by omega)), h n (by omega)]; rfl
theorem sumTo_one {f : Nat → Int} {j : Nat} : ∀ n, j < n → (∀ i, i < n → i ≠ j → f i = 0) → sumTo f n = f j
  | 0, hj, _ => absurd hj (Nat.not_lt_zero _)
  | n + 1, hj, h => by
    show sumTo f n + f n = f j
    by_cases e : j = n
    · subst e
      rw [sumTo_zero j (fun i hi => h i (by omega) (by omega))]; omega
    · rw [sumTo_one n (by omega) (fun i hi => h i (by omega)), h n (by omega) (fun x => e x.symm)]; omega
theorem sumTo_sub (f g : Nat → Int) : ∀ n, sumTo (fun i => f i - g i) n = sumTo f n - sumTo g n
  | 0 => rfl
  | n + 1 => by
    show sumTo _ n + (f n - g n) = sumTo f n + f n - (sumTo g n + g n)
    rw [sumTo_sub f g n]; omega
theorem sumTo_swap (f : Nat → Nat → Int) (m : Nat) : ∀ n, sumTo (fun i => sumTo (fun j => f i j) m) n = sumTo (fun j => sumTo (fun i => f i j) n) m
  | 0 => (sumTo_zero m (fun _ _ => rfl)).symm
  | n + 1 => by
    show sumTo _ n + sumTo (fun j => f n j) m = sumTo (fun j => sumTo (fun i => f i j) n + f n j) m
    rw [sumTo_swap f m n, sumTo_add]
theorem sumTo_nonneg {f : Nat → Int} : ∀ n, (∀ i, i < n → 0 ≤ f i) → 0 ≤ sumTo f n
  | 0, _ => Int.le_refl _
  | n + 1, h => by
    have h1 := sumTo_nonneg n (fun i hi => h i (by omega))
    have h2 := h n (by omega)
    show 0 ≤ sumTo f n + f n
    omega
theorem sumTo_pos {f : Nat → Int} {j : Nat} : ∀ n, (∀ i, i < n → 0 ≤ f i) → j < n → 0 < f j → 0 < sumTo f n
  | 0, _, hj, _ => absurd hj (Nat.not_lt_zero _)
  | n + 1, h, hj, h0 => by
    have h1 := sumTo_nonneg n (fun i hi => h i (by omega))
    have h2 := h n (by omega)
    show 0 < sumTo f n + f n
    by_cases e : j = n
    · subst e; omega
    · have := sumTo_pos n (fun i hi => h i (by omega)) (show j < n by omega) h0
      omega
/-- 1 if a number is greater than another one, else 0. -/
def ind (a b : Int) : Int := if a > b then 1 else 0
theorem ind_cases (a b : Int) : (ind a b = 1 ∧ a > b) ∨ (ind a b = 0 ∧ a ≤ b) := by
  unfold ind
  by_cases h : a > b
  · rw [if_pos h]; exact .inl ⟨rfl, h⟩
  · rw [if_neg h]; exact .inr ⟨rfl, by omega⟩
theorem ind_gt {a b : Int} (h : a > b) : ind a b = 1 := if_pos h
theorem ind_le {a b : Int} (h : a ≤ b) : ind a b = 0 := if_neg (by omega)
theorem ind_sum {a : Int} (h : 0 ≤ a) : ∀ m : Nat, sumTo (fun x => ind a x) m = if a ≤ m then a else m
  | 0 => by
    show (0 : Int) = _
    split <;> omega
  | m + 1 => by
    show sumTo (fun x => ind a x) m + ind a m = _
    rw [ind_sum h m]
    rcases ind_cases a m with ⟨e, h1⟩ | ⟨e, h1⟩ <;> rw [e] <;> split <;> split <;> omega
theorem ind_total {a : Int} {m : Nat} (h : 0 ≤ a) (h2 : a ≤ m) : sumTo (fun x => ind a x) m = a := by rw [ind_sum h, if_pos h2]
/-- A point on a side. -/
def On (σ : Nat → Nat) (X Y : Nat → Int) (k : Nat) (px py : Int) : Prop :=
  (X k ≤ px ∨ X (σ k) ≤ px) ∧ (px ≤ X k ∨ px ≤ X (σ k)) ∧ (Y k ≤ py ∨ Y (σ k) ≤ py) ∧ (py ≤ Y k ∨ py ≤ Y (σ k))
/-- Closed lines of sides parallel to the axes; sides that are not neighbours have no common point. -/
structure Net (T : Nat) (σ : Nat → Nat) (X Y : Nat → Int) : Prop where
  lt : ∀ k, k < T → σ k < T
  sum : ∀ f : Nat → Int, sumTo (fun k => f (σ k)) T = sumTo f T
  side : ∀ k, k < T → (X (σ k) = X k ∧ Y (σ k) ≠ Y k) ∨ (Y (σ k) = Y k ∧ X (σ k) ≠ X k)
  alt : ∀ k, k < T → (X (σ k) = X k ↔ Y (σ (σ k)) = Y (σ k))
  free : ∀ j k, j < T → k < T → ∀ px py, On σ X Y j px py → On σ X Y k px py → j = k ∨ j = σ k ∨ k = σ j
/-- How often the lines go round a cell (by the ray to the right). -/
def Wn (T : Nat) (σ : Nat → Nat) (X Y : Nat → Int) (x y : Int) : Int := sumTo (fun k => ind (X k) x * (ind (Y (σ k)) y - ind (Y k) y)) T
def Vd (σ : Nat → Nat) (X Y : Nat → Int) (x y : Int) (k : Nat) : Int := (ind (X k) (x - 1) - ind (X k) x) * (ind (Y (σ k)) y - ind (Y k) y)
def Hd (σ : Nat → Nat) (X Y : Nat → Int) (x y : Int) (k : Nat) : Int := (ind (X (σ k)) x - ind (X k) x) * (ind (Y (σ k)) (y - 1) - ind (Y (σ k)) y)
def LC (σ : Nat → Nat) (X Y : Nat → Int) (k : Nat) (x y : Int) : Prop :=
  (Y k < Y (σ k) ∧ x = X k - 1 ∧ Y k ≤ y ∧ y < Y (σ k)) ∨ (Y (σ k) < Y k ∧ x = X k ∧ Y (σ k) ≤ y ∧ y < Y k) ∨
  (X k < X (σ k) ∧ y = Y k ∧ X k ≤ x ∧ x < X (σ k)) ∨ (X (σ k) < X k ∧ y = Y k - 1 ∧ X (σ k) ≤ x ∧ x < X k)
def RC (σ : Nat → Nat) (X Y : Nat → Int) (k : Nat) (x y : Int) : Prop :=
  (Y k < Y (σ k) ∧ x = X k ∧ Y k ≤ y ∧ y < Y (σ k)) ∨ (Y (σ k) < Y k ∧ x = X k - 1 ∧ Y (σ k) ≤ y ∧ y < Y k) ∨
  (X k < X (σ k) ∧ y = Y k - 1 ∧ X k ≤ x ∧ x < X (σ k)) ∨ (X (σ k) < X k ∧ y = Y k ∧ X (σ k) ≤ x ∧ x < X k)
/-- The number on the left of a side, one less on its right. -/
def Lv (T : Nat) (σ : Nat → Nat) (X Y : Nat → Int) (k : Nat) (L : Int) : Prop :=
  (∀ x y, LC σ X Y k x y → Wn T σ X Y x y = L) ∧ ∀ x y, RC σ X Y k x y → Wn T σ X Y x y = L - 1
section
variable {T : Nat} {σ : Nat → Nat} {X Y : Nat → Int}
theorem Wn_x (x y : Int) : Wn T σ X Y (x - 1) y - Wn T σ X Y x y = sumTo (Vd σ X Y x y) T := by
  unfold Wn
  rw [← sumTo_sub]
  exact sumTo_congr T fun k _ => by unfold Vd; rw [Int.sub_mul]
theorem Wn_y (N : Net T σ X Y) (x y : Int) : Wn T σ X Y x y - Wn T σ X Y x (y - 1) = sumTo (Hd σ X Y x y) T := by
  have h1 := N.sum fun k => ind (X k) x * (ind (Y k) (y - 1) - ind (Y k) y)
  unfold Wn
  rw [← sumTo_sub]
  have h2 : sumTo (fun i => ind (X i) x * (ind (Y (σ i)) y - ind (Y i) y) - ind (X i) x * (ind (Y (σ i)) (y - 1) - ind (Y i) (y - 1))) T =
      sumTo (fun k => ind (X k) x * (ind (Y k) (y - 1) - ind (Y k) y) - ind (X k) x * (ind (Y (σ k)) (y - 1) - ind (Y (σ k)) y)) T :=
    sumTo_congr T fun k _ => by simp only [Int.mul_sub]; omega
  rw [h2, sumTo_sub, ← h1, ← sumTo_sub]
  exact sumTo_congr T fun k _ => by unfold Hd; rw [Int.sub_mul]
theorem vd_ne {x y : Int} {k : Nat} (h : Vd σ X Y x y k ≠ 0) : X k = x ∧ ((Y k ≤ y ∧ y < Y (σ k)) ∨ (Y (σ k) ≤ y ∧ y < Y k)) := by
  unfold Vd at h
  rcases ind_cases (X k) (x - 1) with ⟨e1, h1⟩ | ⟨e1, h1⟩ <;> rcases ind_cases (X k) x with ⟨e2, h2⟩ | ⟨e2, h2⟩ <;> rcases ind_cases (Y (σ k)) y with ⟨e3, h3⟩ | ⟨e3, h3⟩ <;> rcases ind_cases (Y k) y with ⟨e4, h4⟩ | ⟨e4, h4⟩ <;>
    rw [e1, e2, e3, e4] at h <;> first | exact absurd rfl h | omega
theorem hd_ne {x y : Int} {k : Nat} (h : Hd σ X Y x y k ≠ 0) : Y (σ k) = y ∧ ((X k ≤ x ∧ x < X (σ k)) ∨ (X (σ k) ≤ x ∧ x < X k)) := by
  unfold Hd at h
  rcases ind_cases (X (σ k)) x with ⟨e1, h1⟩ | ⟨e1, h1⟩ <;> rcases ind_cases (X k) x with ⟨e2, h2⟩ | ⟨e2, h2⟩ <;> rcases ind_cases (Y (σ k)) (y - 1) with ⟨e3, h3⟩ | ⟨e3, h3⟩ <;> rcases ind_cases (Y (σ k)) y with ⟨e4, h4⟩ | ⟨e4, h4⟩ <;>
    rw [e1, e2, e3, e4] at h <;> first | exact absurd rfl h | omega
theorem vd_up {y : Int} {k : Nat} (h : Y k ≤ y ∧ y < Y (σ k)) : Vd σ X Y (X k) y k = 1 := by
  unfold Vd
  rw [ind_gt (show X k > X k - 1 by omega), ind_le (Int.le_refl _), ind_gt h.2, ind_le h.1]; rfl
theorem vd_down {y : Int} {k : Nat} (h : Y (σ k) ≤ y ∧ y < Y k) : Vd σ X Y (X k) y k = -1 := by
  unfold Vd
  rw [ind_gt (show X k > X k - 1 by omega), ind_le (Int.le_refl _), ind_gt h.2, ind_le h.1]; rfl
theorem hd_east {x : Int} {k : Nat} (e : Y (σ k) = Y k) (h : X k ≤ x ∧ x < X (σ k)) : Hd σ X Y x (Y k) k = 1 := by
  unfold Hd
  rw [e, ind_gt (show Y k > Y k - 1 by omega), ind_le (Int.le_refl (Y k)), ind_gt h.2, ind_le h.1]; rfl
theorem hd_west {x : Int} {k : Nat} (e : Y (σ k) = Y k) (h : X (σ k) ≤ x ∧ x < X k) : Hd σ X Y x (Y k) k = -1 := by
  unfold Hd
  rw [e, ind_gt (show Y k > Y k - 1 by omega), ind_le (Int.le_refl (Y k)), ind_gt h.2, ind_le h.1]; rfl
/-- Along an upright side nothing changes. -/
theorem Net.up_eq (N : Net T σ X Y) {k : Nat} (hk : k < T) (hv : X (σ k) = X k) {c y : Int} (hc : c = X k - 1 ∨ c = X k) (h1 : (Y k ≤ y ∧ y + 1 < Y (σ k)) ∨ (Y (σ k) ≤ y ∧ y + 1 < Y k)) : Wn T σ X Y c (y + 1) = Wn T σ X Y c y := by
  have h2 := Wn_y N c (y + 1)
  rw [show y + 1 - 1 = y by omega] at h2
  rw [sumTo_zero (f := Hd σ X Y c (y + 1)) T (fun j hj => ?_)] at h2
  · omega
  · refine Classical.byContradiction fun h => ?_
    obtain ⟨e, hx⟩ := hd_ne h
    have e2 : Y j = y + 1 := by rcases N.side j hj with h | h <;> omega
    rcases N.free j k hj hk (X k) (y + 1) ⟨by omega, by omega, by omega, by omega⟩ ⟨by omega, by omega, by omega, by omega⟩ with h | h | h
    · subst h; omega
    · subst h; omega
    · rw [h] at h1 hv hc; rw [h] at *; omega
/-- Along a level side nothing changes. -/
theorem Net.flat_eq (N : Net T σ X Y) {k : Nat} (hk : k < T) (hh : Y (σ k) = Y k) {c x : Int} (hc : c = Y k - 1 ∨ c = Y k) (h1 : (X k ≤ x - 1 ∧ x < X (σ k)) ∨ (X (σ k) ≤ x - 1 ∧ x < X k)) : Wn T σ X Y (x - 1) c = Wn T σ X Y x c := by
  have h2 := Wn_x (T := T) (σ := σ) (X := X) (Y := Y) x c
  rw [sumTo_zero (f := Vd σ X Y x c) T (fun j hj => ?_)] at h2
  · omega
  · refine Classical.byContradiction fun h => ?_
    obtain ⟨e, hx⟩ := vd_ne h
    have e2 : X (σ j) = x := by rcases N.side j hj with h | h <;> omega
    rcases N.free j k hj hk x (Y k) ⟨by omega, by omega, by omega, by omega⟩ ⟨by omega, by omega, by omega, by omega⟩ with h | h | h
    · subst h; omega
    · subst h; omega
    · rw [h] at h1; omega
theorem Net.up_const (N : Net T σ X Y) {k : Nat} (hk : k < T) (hv : X (σ k) = X k) {c lo : Int} (hc : c = X k - 1 ∨ c = X k) (hlo : lo = Y k ∨ lo = Y (σ k)) (hm : lo ≤ Y k ∧ lo ≤ Y (σ k)) : ∀ d : Nat, (lo + d < Y k ∨ lo + d < Y (σ k)) → Wn T σ X Y c (lo + d) = Wn T σ X Y c lo
  | 0, _ => by rw [show lo + ((0 : Nat) : Int) = lo by omega]
  | d + 1, h => by
    rw [show lo + ((d + 1 : Nat) : Int) = lo + d + 1 by omega, N.up_eq hk hv hc (by omega)]
    exact N.up_const hk hv hc hlo hm d (by omega)
theorem Net.flat_const (N : Net T σ X Y) {k : Nat} (hk : k < T) (hh : Y (σ k) = Y k) {c lo : Int} (hc : c = Y k - 1 ∨ c = Y k) (hlo : lo = X k ∨ lo = X (σ k)) (hm : lo ≤ X k ∧ lo ≤ X (σ k)) : ∀ d : Nat, (lo + d < X k ∨ lo + d < X (σ k)) → Wn T σ X Y (lo + d) c = Wn T σ X Y lo c
  | 0, _ => by rw [show lo + ((0 : Nat) : Int) = lo by omega]
  | d + 1, h => by
    have h1 := N.flat_eq hk hh hc (x := lo + ((d + 1 : Nat) : Int)) (by omega)
    rw [← h1, show lo + ((d + 1 : Nat) : Int) - 1 = lo + d by omega]
    exact N.flat_const hk hh hc hlo hm d (by omega)
theorem Net.over_up (N : Net T σ X Y) {k : Nat} (hk : k < T) (hv : X (σ k) = X k) {y : Int} (h1 : (Y k ≤ y ∧ y < Y (σ k)) ∨ (Y (σ k) ≤ y ∧ y < Y k)) : Wn T σ X Y (X k - 1) y - Wn T σ X Y (X k) y = Vd σ X Y (X k) y k := by
  rw [Wn_x]
  refine sumTo_one T hk fun j hj hne => ?_
  refine Classical.byContradiction fun h => ?_
  obtain ⟨e, hx⟩ := vd_ne h
  have e2 : X (σ j) = X j := by rcases N.side j hj with h | h <;> omega
  rcases N.free j k hj hk (X k) y ⟨by omega, by omega, by omega, by omega⟩ ⟨by omega, by omega, by omega, by omega⟩ with h | h | h
  · exact hne h
  · have := (N.alt k hk).1 hv
    rw [← h] at this; omega
  · have := (N.alt j hj).1 e2
    rw [← h] at this; omega
theorem Net.over_flat (N : Net T σ X Y) {k : Nat} (hk : k < T) (hh : Y (σ k) = Y k) {x : Int} (h1 : (X k ≤ x ∧ x < X (σ k)) ∨ (X (σ k) ≤ x ∧ x < X k)) : Wn T σ X Y x (Y k) - Wn T σ X Y x (Y k - 1) = Hd σ X Y x (Y k) k := by
  rw [Wn_y N]
  refine sumTo_one T hk fun j hj hne => ?_
  refine Classical.byContradiction fun h => ?_
  obtain ⟨e, hx⟩ := hd_ne h
  have e2 : Y (σ j) = Y j := by rcases N.side j hj with h | h <;> omega
  rcases N.free j k hj hk x (Y k) ⟨by omega, by omega, by omega, by omega⟩ ⟨by omega, by omega, by omega, by omega⟩ with h | h | h
  · exact hne h
  · have := N.alt k hk
    rw [← h] at this h1
    have h9 := this.2 e2
    omega
  · have := N.alt j hj
    rw [← h] at this hx
    have h9 := this.2 hh
    omega
theorem Net.lv_ex (N : Net T σ X Y) {k : Nat} (hk : k < T) : ∃ L, Lv T σ X Y k L := by
  rcases N.side k hk with ⟨hv, hd⟩ | ⟨hh, hd⟩
  · have con : ∀ c, (c = X k - 1 ∨ c = X k) → ∀ lo, (lo = Y k ∨ lo = Y (σ k)) → lo ≤ Y k → lo ≤ Y (σ k) → ∀ y, lo ≤ y → (y < Y k ∨ y < Y (σ k)) → Wn T σ X Y c y = Wn T σ X Y c lo := fun c hc lo hlo m1 m2 y h1 h2 => by
      have := N.up_const hk hv hc hlo ⟨m1, m2⟩ (y - lo).toNat (by omega)
      rw [show lo + ((y - lo).toNat : Int) = y by omega] at this
      exact this
    by_cases hu : Y k < Y (σ k)
    · refine ⟨Wn T σ X Y (X k - 1) (Y k), fun x y h => ?_, fun x y h => ?_⟩
      · unfold LC at h
        obtain ⟨rfl, h1, h2⟩ : x = X k - 1 ∧ Y k ≤ y ∧ y < Y (σ k) := by omega
        exact con _ (.inl rfl) _ (.inl rfl) (Int.le_refl _) (by omega) y h1 (.inr h2)
      · unfold RC at h
        obtain ⟨rfl, h1, h2⟩ : x = X k ∧ Y k ≤ y ∧ y < Y (σ k) := by omega
        have e1 := con _ (.inl rfl) _ (.inl rfl) (Int.le_refl _) (by omega) y h1 (.inr h2)
        have e2 := N.over_up hk hv (.inl ⟨h1, h2⟩)
        rw [vd_up ⟨h1, h2⟩] at e2
        omega
    · refine ⟨Wn T σ X Y (X k) (Y (σ k)), fun x y h => ?_, fun x y h => ?_⟩
      · unfold LC at h
        obtain ⟨rfl, h1, h2⟩ : x = X k ∧ Y (σ k) ≤ y ∧ y < Y k := by omega
        exact con _ (.inr rfl) _ (.inr rfl) (by omega) (Int.le_refl _) y h1 (.inl h2)
      · unfold RC at h
        obtain ⟨rfl, h1, h2⟩ : x = X k - 1 ∧ Y (σ k) ≤ y ∧ y < Y k := by omega
        have e1 := con _ (.inr rfl) _ (.inr rfl) (by omega) (Int.le_refl _) y h1 (.inl h2)
        have e2 := N.over_up hk hv (.inr ⟨h1, h2⟩)
        rw [vd_down ⟨h1, h2⟩] at e2
        omega
  · have con : ∀ c, (c = Y k - 1 ∨ c = Y k) → ∀ lo, (lo = X k ∨ lo = X (σ k)) → lo ≤ X k → lo ≤ X (σ k) → ∀ x, lo ≤ x → (x < X k ∨ x < X (σ k)) → Wn T σ X Y x c = Wn T σ X Y lo c := fun c hc lo hlo m1 m2 x h1 h2 => by
      have := N.flat_const hk hh hc hlo ⟨m1, m2⟩ (x - lo).toNat (by omega)
      rw [show lo + ((x - lo).toNat : Int) = x by omega] at this
      exact this
    by_cases hu : X k < X (σ k)
    · refine ⟨Wn T σ X Y (X k) (Y k), fun x y h => ?_, fun x y h => ?_⟩
      · unfold LC at h
        obtain ⟨rfl, h1, h2⟩ : y = Y k ∧ X k ≤ x ∧ x < X (σ k) := by omega
        exact con _ (.inr rfl) _ (.inl rfl) (Int.le_refl _) (by omega) x h1 (.inr h2)
      · unfold RC at h
        obtain ⟨rfl, h1, h2⟩ : y = Y k - 1 ∧ X k ≤ x ∧ x < X (σ k) := by omega
        have e1 := con _ (.inr rfl) _ (.inl rfl) (Int.le_refl _) (by omega) x h1 (.inr h2)
        have e2 := N.over_flat hk hh (.inl ⟨h1, h2⟩)
        rw [hd_east hh ⟨h1, h2⟩] at e2
        omega
    · refine ⟨Wn T σ X Y (X (σ k)) (Y k - 1), fun x y h => ?_, fun x y h => ?_⟩
      · unfold LC at h
        obtain ⟨rfl, h1, h2⟩ : y = Y k - 1 ∧ X (σ k) ≤ x ∧ x < X k := by omega
        exact con _ (.inl rfl) _ (.inr rfl) (by omega) (Int.le_refl _) x h1 (.inl h2)
      · unfold RC at h
        obtain ⟨rfl, h1, h2⟩ : y = Y k ∧ X (σ k) ≤ x ∧ x < X k := by omega
        have e1 := con _ (.inl rfl) _ (.inr rfl) (by omega) (Int.le_refl _) x h1 (.inl h2)
        have e2 := N.over_flat hk hh (.inr ⟨h1, h2⟩)
        rw [hd_west hh ⟨h1, h2⟩] at e2
        omega
/-- A side and the one behind it have a cell in common, on the left of both or on the right of both. -/
theorem Net.share (N : Net T σ X Y) {k : Nat} (hk : k < T) : ∃ x y, (LC σ X Y k x y ∧ LC σ X Y (σ k) x y) ∨ (RC σ X Y k x y ∧ RC σ X Y (σ k) x y) := by
  have h1 := N.side k hk
  have h2 := N.side (σ k) (N.lt k hk)
  have h3 := N.alt k hk
  unfold LC RC
  generalize σ (σ k) = k2 at *
  generalize σ k = k1 at *
  by_cases a : Y k < Y k1
  · by_cases b : X k1 < X k2
    · exact ⟨X k1, Y k1 - 1, .inr ⟨by omega, by omega⟩⟩
    · exact ⟨X k1 - 1, Y k1 - 1, .inl ⟨by omega, by omega⟩⟩
  by_cases a2 : Y k1 < Y k
  · by_cases b : X k1 < X k2
    · exact ⟨X k1, Y k1, .inl ⟨by omega, by omega⟩⟩
    · exact ⟨X k1 - 1, Y k1, .inr ⟨by omega, by omega⟩⟩
  by_cases a3 : X k < X k1
  · by_cases b : Y k1 < Y k2
    · exact ⟨X k1 - 1, Y k1, .inl ⟨by omega, by omega⟩⟩
    · exact ⟨X k1 - 1, Y k1 - 1, .inr ⟨by omega, by omega⟩⟩
  · by_cases b : Y k1 < Y k2
    · exact ⟨X k1, Y k1, .inr ⟨by omega, by omega⟩⟩
    · exact ⟨X k1, Y k1 - 1, .inl ⟨by omega, by omega⟩⟩
theorem Net.lv_next (N : Net T σ X Y) {k : Nat} (hk : k < T) {L : Int} (h : Lv T σ X Y k L) : Lv T σ X Y (σ k) L := by
  obtain ⟨L', h'⟩ := N.lv_ex (N.lt k hk)
  obtain ⟨x, y, ⟨h1, h2⟩ | ⟨h1, h2⟩⟩ := N.share hk
  · have e1 := h.1 x y h1
    have e2 := h'.1 x y h2
    rw [show L = L' by omega]; exact h'
  · have e1 := h.2 x y h1
    have e2 := h'.2 x y h2
    rw [show L = L' by omega]; exact h'
/-- Nothing is beyond the greatest corner. -/
theorem Wn_right {x : Int} (h : ∀ k, k < T → X k ≤ x) (y : Int) : Wn T σ X Y x y = 0 := sumTo_zero T fun k hk => by rw [ind_le (h k hk), Int.zero_mul]
theorem vd_cell {x y : Int} {j : Nat} (h : Vd σ X Y x y j ≠ 0) : (LC σ X Y j (x - 1) y ∧ RC σ X Y j x y) ∨ (RC σ X Y j (x - 1) y ∧ LC σ X Y j x y) := by
  obtain ⟨e, hx⟩ := vd_ne h
  rcases hx with ⟨h1, h2⟩ | ⟨h1, h2⟩
  · exact .inl ⟨.inl ⟨by omega, by omega, h1, h2⟩, .inl ⟨by omega, by omega, h1, h2⟩⟩
  · exact .inr ⟨.inr (.inl ⟨by omega, by omega, h1, h2⟩), .inr (.inl ⟨by omega, by omega, h1, h2⟩)⟩
/-- What a cell's number can be. -/
theorem Net.ray (N : Net T σ X Y) {M : Int} (hM : ∀ k, k < T → X k ≤ M) (y : Int) : ∀ d : Nat, Wn T σ X Y (M - d) y = 0 ∨ ∃ k L, k < T ∧ Lv T σ X Y k L ∧ (Wn T σ X Y (M - d) y = L ∨ Wn T σ X Y (M - d) y = L - 1)
  | 0 => .inl (Wn_right (fun k hk => by have := hM k hk; omega) y)
  | d + 1 => by
    have h1 := Wn_x (T := T) (σ := σ) (X := X) (Y := Y) (M - d) y
    rw [show M - ((d + 1 : Nat) : Int) = M - d - 1 by omega]
    by_cases h : ∃ j, j < T ∧ Vd σ X Y (M - d) y j ≠ 0
    · obtain ⟨j, hj, h⟩ := h
      obtain ⟨L, hL⟩ := N.lv_ex hj
      refine .inr ⟨j, L, hj, hL, ?_⟩
      rcases vd_cell h with ⟨h, _⟩ | ⟨h, _⟩
      · exact .inl (hL.1 _ _ h)
      · exact .inr (hL.2 _ _ h)
    · rw [sumTo_zero (f := Vd σ X Y (M - d) y) T (fun j hj => Classical.byContradiction fun e => h ⟨j, hj, e⟩)] at h1
      rw [show Wn T σ X Y (M - d - 1) y = Wn T σ X Y (M - d) y by omega]
      exact N.ray hM y d
theorem Net.values (N : Net T σ X Y) (x y : Int) : Wn T σ X Y x y = 0 ∨ ∃ k L, k < T ∧ Lv T σ X Y k L ∧ (Wn T σ X Y x y = L ∨ Wn T σ X Y x y = L - 1) := by
  have bound : ∀ n, ∃ M : Int, ∀ k, k < n → X k ≤ M := fun n => by
    induction n with
    | zero => exact ⟨0, fun k hk => absurd hk (Nat.not_lt_zero _)⟩
    | succ n ih =>
      obtain ⟨M, hM⟩ := ih
      refine ⟨if M < X n then X n else M, fun k hk => ?_⟩
      by_cases e : k = n
      · subst e; split <;> omega
      · have := hM k (by omega); split <;> omega
  obtain ⟨M, hM⟩ := bound T
  by_cases h : x ≤ M
  · have := N.ray hM y (M - x).toNat
    rw [show M - ((M - x).toNat : Int) = x by omega] at this
    exact this
  · exact .inl (Wn_right (fun k hk => by have := hM k hk; omega) y)
/-- From the right to the left: the first side met has nothing on its right. -/
theorem Net.first (N : Net T σ X Y) {M : Int} (hM : ∀ k, k < T → X k ≤ M) (y : Int) : ∀ d : Nat, (∀ x, M - d ≤ x → Wn T σ X Y x y = 0) ∨ ∃ k x, k < T ∧ (∀ x', x ≤ x' → Wn T σ X Y x' y = 0) ∧ ((LC σ X Y k (x - 1) y ∧ RC σ X Y k x y) ∨ (RC σ X Y k (x - 1) y ∧ LC σ X Y k x y))
  | 0 => .inl fun x hx => Wn_right (fun k hk => by have := hM k hk; omega) y
  | d + 1 => by
    rcases N.first hM y d with h0 | h0
    · by_cases h : ∃ j, j < T ∧ Vd σ X Y (M - d) y j ≠ 0
      · obtain ⟨j, hj, h⟩ := h
        exact .inr ⟨j, M - d, hj, h0, vd_cell h⟩
      · left
        intro x hx
        have h1 := Wn_x (T := T) (σ := σ) (X := X) (Y := Y) (M - d) y
        rw [sumTo_zero (f := Vd σ X Y (M - d) y) T (fun j hj => Classical.byContradiction fun e => h ⟨j, hj, e⟩)] at h1
        have h2 := h0 (M - d) (Int.le_refl _)
        by_cases e : x = M - d - 1
        · subst e; omega
        · exact h0 x (by omega)
    · exact .inr h0
/-- Nothing lies outside of the corners' range. -/
theorem Net.range (N : Net T σ X Y) {M : Int} (hX : ∀ k, k < T → 0 ≤ X k ∧ X k ≤ M) (hY : ∀ k, k < T → 0 ≤ Y k ∧ Y k ≤ M) {x y : Int} (h : Wn T σ X Y x y ≠ 0) : (0 ≤ x ∧ x < M) ∧ 0 ≤ y ∧ y < M := by
  refine Classical.byContradiction fun hn => h ?_
  by_cases h1 : M ≤ x
  · exact Wn_right (fun k hk => by have := hX k hk; omega) y
  by_cases h2 : x < 0
  · unfold Wn
    rw [sumTo_congr (g := fun k => ind (Y (σ k)) y - ind (Y k) y) T (fun k hk => by rw [ind_gt (show X k > x by have := hX k hk; omega), Int.one_mul]), sumTo_sub, N.sum (fun k => ind (Y k) y)]; omega
  by_cases h3 : M ≤ y
  · exact sumTo_zero T fun k hk => by rw [ind_le (show Y k ≤ y by have := hY k hk; omega), ind_le (show Y (σ k) ≤ y by have := hY _ (N.lt k hk); omega)]; simp
  by_cases h4 : y < 0
  · exact sumTo_zero T fun k hk => by rw [ind_gt (show Y k > y by have := hY k hk; omega), ind_gt (show Y (σ k) > y by have := hY _ (N.lt k hk); omega)]; simp
  omega
/-- Twice the area, by cells. -/
theorem Net.area (N : Net T σ X Y) {M : Nat} (hX : ∀ k, k < T → 0 ≤ X k ∧ X k ≤ M) (hY : ∀ k, k < T → 0 ≤ Y k ∧ Y k ≤ M) :
    sumTo (fun k => X k * Y (σ k) - Y k * X (σ k)) T = 2 * sumTo (fun x => sumTo (fun y => Wn T σ X Y x y) M) M := by
  have h1 : sumTo (fun k => X k * (Y (σ k) - Y k)) T = sumTo (fun x => sumTo (fun y => Wn T σ X Y x y) M) M := by
    unfold Wn
    rw [sumTo_congr (g := fun k => sumTo (fun x : Nat => sumTo (fun y : Nat => ind (X k) x * (ind (Y (σ k)) y - ind (Y k) y)) M) M) T fun k hk => ?_]
    · rw [sumTo_swap]
      refine sumTo_congr M fun x _ => ?_
      rw [sumTo_swap]
    · have e1 := ind_total (hX k hk).1 (hX k hk).2
      have e2 := ind_total (hY k hk).1 (hY k hk).2
      have e3 := ind_total (hY _ (N.lt k hk)).1 (hY _ (N.lt k hk)).2
      rw [sumTo_congr (g := fun x : Nat => (Y (σ k) - Y k) * ind (X k) x) M fun x _ => ?_]
      · rw [sumTo_mul, e1, Int.mul_comm]
      · show sumTo (fun y : Nat => ind (X k) x * (ind (Y (σ k)) y - ind (Y k) y)) M = _
        rw [sumTo_mul, sumTo_sub, e2, e3, Int.mul_comm]
  rw [← h1, ← sumTo_mul]
  have h2 := N.sum fun k => X k * Y k
  have h3 : sumTo (fun k => X k * Y (σ k) - Y k * X (σ k) - 2 * (X k * (Y (σ k) - Y k))) T = sumTo (fun k => X k * Y k - X (σ k) * Y (σ k)) T := sumTo_congr T fun k hk => by
    rcases N.side k hk with ⟨e, _⟩ | ⟨e, _⟩
    · rw [e, Int.mul_sub, Int.mul_comm (Y k) (X k)]; omega
    · rw [e, Int.mul_sub, Int.mul_comm (Y k) (X (σ k))]; omega
  rw [sumTo_sub, sumTo_sub (fun k => X k * Y k), h2] at h3
  omega
end
/-- One closed line. -/
theorem ring_all {n : Nat} {P : Nat → Prop} (h0 : 0 < n → P 0) (h : ∀ k, k < n → P k → P (nxt n k)) : ∀ k, k < n → P k
  | 0, hk => h0 hk
  | k + 1, hk => by
    have := h k (by omega) (ring_all h0 h k (by omega))
    rw [show nxt n k = k + 1 from Nat.mod_eq_of_lt hk] at this
    exact this
section
variable {n : Nat} {X Y : Nat → Int}
/-- A closed line alone: an inside, whose number is 1 or -1; on the left of all sides it is L, which is 0 or 1. -/
theorem Net.one (N : Net n (nxt n) X Y) (h0 : 0 < n) : ∃ L : Int, (L = 0 ∨ L = 1) ∧ (∀ k, k < n → Lv n (nxt n) X Y k L) ∧ ∀ x y, Wn n (nxt n) X Y x y = 0 ∨ Wn n (nxt n) X Y x y = 2 * L - 1 := by
  obtain ⟨L, hL⟩ := N.lv_ex h0
  have all : ∀ k, k < n → Lv n (nxt n) X Y k L := ring_all (fun _ => hL) fun k hk h => N.lv_next hk h
  have hb : ∀ m, ∃ M : Int, ∀ k, k < m → X k ≤ M := fun m => by
    induction m with
    | zero => exact ⟨0, fun k hk => absurd hk (Nat.not_lt_zero _)⟩
    | succ m ih =>
      obtain ⟨M, hM⟩ := ih
      refine ⟨if M < X m then X m else M, fun k hk => ?_⟩
      by_cases e : k = m
      · subst e; split <;> omega
      · have := hM k (by omega); split <;> omega
  obtain ⟨M, hM⟩ := hb n
  have cell : ∃ x y, LC (nxt n) X Y 0 x y ∧ ∃ x' y', RC (nxt n) X Y 0 x' y' := by
    have := N.side 0 h0
    unfold LC RC
    by_cases a : Y 0 < Y (nxt n 0)
    · exact ⟨X 0 - 1, Y 0, by omega, X 0, Y 0, by omega⟩
    by_cases a2 : Y (nxt n 0) < Y 0
    · exact ⟨X 0, Y (nxt n 0), by omega, X 0 - 1, Y (nxt n 0), by omega⟩
    by_cases a3 : X 0 < X (nxt n 0)
    · exact ⟨X 0, Y 0, by omega, X 0, Y 0 - 1, by omega⟩
    · exact ⟨X (nxt n 0), Y 0 - 1, by omega, X (nxt n 0), Y 0, by omega⟩
  obtain ⟨x1, y1, c1, x2, y2, c2⟩ := cell
  have e1 := hL.1 _ _ c1
  have e2 := hL.2 _ _ c2
  have try1 : ∀ x y, Wn n (nxt n) X Y x y ≠ 0 → L = 0 ∨ L = 1 := fun x y h => by
    have hx : x < M := Classical.byContradiction fun e => h (Wn_right (fun k hk => by have := hM k hk; omega) y)
    rcases N.first hM y (M - x).toNat with h1 | ⟨k, x', hk, h1, h2⟩
    · exact absurd (h1 x (by omega)) h
    · have z := h1 x' (Int.le_refl _)
      rcases h2 with ⟨_, h2⟩ | ⟨_, h2⟩
      · have := (all k hk).2 _ _ h2; omega
      · have := (all k hk).1 _ _ h2; omega
  have h01 : L = 0 ∨ L = 1 := by
    by_cases e : L = 0
    · exact .inl e
    · exact try1 x1 y1 (by rw [e1]; exact e)
  refine ⟨L, h01, all, fun x y => ?_⟩
  rcases N.values x y with h | ⟨k, L', hk, h1, h2⟩
  · exact .inl h
  · have e : L' = L := by
      have a := all k hk
      have hc : ∃ x y, LC (nxt n) X Y k x y := by
        have := N.side k hk
        unfold LC
        by_cases a : Y k < Y (nxt n k)
        · exact ⟨X k - 1, Y k, by omega⟩
        by_cases a2 : Y (nxt n k) < Y k
        · exact ⟨X k, Y (nxt n k), by omega⟩
        by_cases a3 : X k < X (nxt n k)
        · exact ⟨X k, Y k, by omega⟩
        · exact ⟨X (nxt n k), Y k - 1, by omega⟩
      obtain ⟨x, y, hc⟩ := hc
      rw [← h1.1 _ _ hc, a.1 _ _ hc]
    omega
/-- Its area is not 0, and its sign tells on which side the inside lies. -/
theorem Net.area_one (N : Net n (nxt n) X Y) (h0 : 0 < n) {M : Nat} (hX : ∀ k, k < n → 0 ≤ X k ∧ X k ≤ M) (hY : ∀ k, k < n → 0 ≤ Y k ∧ Y k ≤ M) {L : Int} (h01 : L = 0 ∨ L = 1) (hL : ∀ k, k < n → Lv n (nxt n) X Y k L) (hv : ∀ x y, Wn n (nxt n) X Y x y = 0 ∨ Wn n (nxt n) X Y x y = 2 * L - 1) :
    0 < (2 * L - 1) * sumTo (fun k => X k * Y (nxt n k) - Y k * X (nxt n k)) n := by
  rw [N.area hX hY]
  have hsome : ∃ x y, Wn n (nxt n) X Y x y = 2 * L - 1 := by
    have := N.side 0 h0
    have h := hL 0 h0
    have cell : (∃ x y, LC (nxt n) X Y 0 x y) ∧ ∃ x' y', RC (nxt n) X Y 0 x' y' := by
      unfold LC RC
      by_cases a : Y 0 < Y (nxt n 0)
      · exact ⟨⟨X 0 - 1, Y 0, by omega⟩, X 0, Y 0, by omega⟩
      by_cases a2 : Y (nxt n 0) < Y 0
      · exact ⟨⟨X 0, Y (nxt n 0), by omega⟩, X 0 - 1, Y (nxt n 0), by omega⟩
      by_cases a3 : X 0 < X (nxt n 0)
      · exact ⟨⟨X 0, Y 0, by omega⟩, X 0, Y 0 - 1, by omega⟩
      · exact ⟨⟨X (nxt n 0), Y 0 - 1, by omega⟩, X (nxt n 0), Y 0, by omega⟩
    obtain ⟨⟨x1, y1, c1⟩, x2, y2, c2⟩ := cell
    have e1 := h.1 _ _ c1
    have e2 := h.2 _ _ c2
    rcases h01 with e | e
    · exact ⟨x2, y2, by omega⟩
    · exact ⟨x1, y1, by omega⟩
  obtain ⟨x, y, hxy⟩ := hsome
  obtain ⟨⟨r1, r2⟩, r3, r4⟩ := N.range hX hY (x := x) (y := y) (by rw [hxy]; omega)
  have sq : ∀ x y, 0 ≤ (2 * L - 1) * Wn n (nxt n) X Y x y := fun x y => by
    rcases hv x y with h | h <;> rw [h]
    · simp
    · rcases h01 with e | e <;> subst e <;> decide
  have pos : 0 < (2 * L - 1) * Wn n (nxt n) X Y x y := by
    rw [hxy]
    rcases h01 with e | e <;> subst e <;> decide
  have hp : 0 < sumTo (fun i => sumTo (fun j => (2 * L - 1) * Wn n (nxt n) X Y i j) M) M := by
    refine sumTo_pos (j := x.toNat) M (fun i _ => sumTo_nonneg M fun j _ => sq i j) (by omega) ?_
    refine sumTo_pos (j := y.toNat) M (fun j _ => sq _ j) (by omega) ?_
    show 0 < (2 * L - 1) * Wn n (nxt n) X Y (x.toNat : Nat) (y.toNat : Nat)
    rw [show ((x.toNat : Nat) : Int) = x by omega, show ((y.toNat : Nat) : Int) = y by omega]
    exact pos
  have e : sumTo (fun i : Nat => sumTo (fun j : Nat => (2 * L - 1) * Wn n (nxt n) X Y i j) M) M = (2 * L - 1) * sumTo (fun i : Nat => sumTo (fun j : Nat => Wn n (nxt n) X Y i j) M) M := by
    rw [← sumTo_mul]
    exact sumTo_congr M fun i _ => sumTo_mul _ _ M
  rw [e] at hp
  rcases h01 with e | e <;> subst e <;> omega
end
end Go.Proofs.YtnpfkmbcejgnjaaGreatDoor
