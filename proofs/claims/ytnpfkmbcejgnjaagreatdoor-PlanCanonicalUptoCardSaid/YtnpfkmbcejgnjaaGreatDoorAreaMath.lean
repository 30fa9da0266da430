/-
  Plain facts: each cell lies in a valid plan once or not at all; its area by the rows of a scan.
-/
import Derived.Test.YtnpfkmbcejgnjaaGreatDoorTurnMath
namespace Go.Proofs.YtnpfkmbcejgnjaaGreatDoor
open Go Go.RowKit Go.Am
section
variable {T : Nat} {σ : Nat → Nat} {X Y : Nat → Int}
/-- Round a point that lies on no side nothing changes. -/
theorem Net.round (N : Net T σ X Y) {px py : Int} (h : ∀ k, k < T → ¬ On σ X Y k px py) {cx cy : Int} (hx : cx = px ∨ cx = px - 1) (hy : cy = py ∨ cy = py - 1) : Wn T σ X Y cx cy = Wn T σ X Y px py := by
  have v : ∀ y, (y = py ∨ y = py - 1) → Wn T σ X Y (px - 1) y = Wn T σ X Y px y := fun y hy => by
    have h2 := Wn_x (T := T) (σ := σ) (X := X) (Y := Y) px y
    rw [sumTo_zero (f := Vd σ X Y px y) T (fun j hj => ?_)] at h2
    · omega
    · refine Classical.byContradiction fun hn => ?_
      obtain ⟨e, hx⟩ := vd_ne hn
      have e2 : X (σ j) = X j := by rcases N.side j hj with h | h <;> omega
      exact h j hj ⟨by omega, by omega, by omega, by omega⟩
  have w : Wn T σ X Y px (py - 1) = Wn T σ X Y px py := by
    have h2 := Wn_y N px py
    rw [sumTo_zero (f := Hd σ X Y px py) T (fun j hj => ?_)] at h2
    · omega
    · refine Classical.byContradiction fun hn => ?_
      obtain ⟨e, hx⟩ := hd_ne hn
      have e2 : Y (σ j) = Y j := by rcases N.side j hj with h | h <;> omega
      exact h j hj ⟨by omega, by omega, by omega, by omega⟩
  have hc : Wn T σ X Y cx cy = Wn T σ X Y px cy := by
    rcases hx with e | e
    · rw [e]
    · rw [e]; exact v cy hy
  rw [hc]
  rcases hy with e | e
  · rw [e]
  · rw [e]; exact w
theorem Net.col (N : Net T σ X Y) {c lo : Int} : ∀ d : Nat, (∀ y, lo ≤ y → y ≤ lo + d → ∀ k, k < T → ¬ On σ X Y k c y) → Wn T σ X Y c (lo + d) = Wn T σ X Y c lo
  | 0, _ => by rw [show lo + ((0 : Nat) : Int) = lo by omega]
  | d + 1, h => by
    have h1 := N.round (h (lo + ((d + 1 : Nat) : Int)) (by omega) (by omega)) (cx := c) (cy := lo + d) (.inl rfl) (.inr (by omega))
    rw [← h1]
    exact N.col d fun y a b => h y a (by omega)
theorem Net.row (N : Net T σ X Y) {c lo : Int} : ∀ d : Nat, (∀ x, lo ≤ x → x ≤ lo + d → ∀ k, k < T → ¬ On σ X Y k x c) → Wn T σ X Y (lo + d) c = Wn T σ X Y lo c
  | 0, _ => by rw [show lo + ((0 : Nat) : Int) = lo by omega]
  | d + 1, h => by
    have h1 := N.round (h (lo + ((d + 1 : Nat) : Int)) (by omega) (by omega)) (cx := lo + d) (cy := c) (.inr (by omega)) (.inl rfl)
    rw [← h1]
    exact N.row d fun y a b => h y a (by omega)
theorem Net.col_to (N : Net T σ X Y) {c a b y : Int} (h : ∀ y, a ≤ y → y ≤ b → ∀ k, k < T → ¬ On σ X Y k c y) (h1 : a ≤ y) (h2 : y ≤ b) : Wn T σ X Y c y = Wn T σ X Y c a := by
  have := N.col (c := c) (lo := a) (y - a).toNat fun z p q => h z p (by omega)
  rwa [show a + ((y - a).toNat : Int) = y by omega] at this
theorem Net.row_to (N : Net T σ X Y) {c a b x : Int} (h : ∀ x, a ≤ x → x ≤ b → ∀ k, k < T → ¬ On σ X Y k x c) (h1 : a ≤ x) (h2 : x ≤ b) : Wn T σ X Y x c = Wn T σ X Y a c := by
  have := N.row (c := c) (lo := a) (x - a).toNat fun z p q => h z p (by omega)
  rwa [show a + ((x - a).toNat : Int) = x by omega] at this
/-- A cell beside a side is one of four round a point of the side. -/
theorem Net.near (N : Net T σ X Y) {k : Nat} (hk : k < T) {x y : Int} (h : LC σ X Y k x y ∨ RC σ X Y k x y) : ∃ px py, On σ X Y k px py ∧ (x = px ∨ x = px - 1) ∧ (y = py ∨ y = py - 1) := by
  have hs := N.side k hk
  unfold LC RC at h
  unfold On
  rcases hs with ⟨e, _⟩ | ⟨e, _⟩
  · exact ⟨X k, y, by omega, by omega, by omega⟩
  · exact ⟨x, Y k, by omega, by omega, by omega⟩
end
/-! ### The rings of a plan -/
theorem chk_inR {rs : List (List Sd)} (h : chk rs = 0) : allR rs := fun l hl s hs => rgd_inR ((chk_parts h).1 l hl s hs)
/-- How often a ring goes round a cell. -/
def Wr (rs : List (List Sd)) (r : Nat) (x y : Int) : Int := Wn (rg rs r).length (nxt (rg rs r).length) (fun k => (sd (rg rs r) k).x) (fun k => (sd (rg rs r) k).y) x y
def OnR (rs : List (List Sd)) (r k : Nat) (px py : Int) : Prop := On (nxt (rg rs r).length) (fun k => (sd (rg rs r) k).x) (fun k => (sd (rg rs r) k).y) k px py
theorem apart {rs : List (List Sd)} (hc : crs rs = false) {r s i : Nat} (hr : r < rs.length) (hs : s < rs.length) (hne : r ≠ s) (hi : i < (rg rs r).length) {px py : Int} (h : OnR rs r i px py) : ∀ k, k < (rg rs s).length → ¬ OnR rs s k px py :=
  fun k hk h2 => meet_on ((crs_iff rs).1 hc r i s k hr hi hs hk fun h => hne h.1) h h2
theorem chk_net {rs : List (List Sd)} (hc : chk rs = 0) {r : Nat} (hr : r < rs.length) : Net (rg rs r).length (nxt (rg rs r).length) (fun k => (sd (rg rs r) k).x) (fun k => (sd (rg rs r) k).y) :=
  ring_net (chk_inR hc) (chk_parts hc).2.1 (chk_parts hc).2.2.1 hr
theorem Wr_along {rs : List (List Sd)} (hc : chk rs = 0) {r s k : Nat} (hr : r < rs.length) (hs : s < rs.length) (hne : r ≠ s) (hk : k < (rg rs r).length) {px py : Int} (h : OnR rs r k px py) : Wr rs s px py = Wr rs s (sd (rg rs r) k).x (sd (rg rs r) k).y := by
  have N := chk_net hc hr
  have M := chk_net hc hs
  have hap : ∀ px py, OnR rs r k px py → ∀ j, j < (rg rs s).length → ¬ OnR rs s j px py := fun px py h => apart (chk_parts hc).2.2.1 hr hs hne hk h
  have hside := N.side k hk
  unfold OnR On at h
  simp only at h
  unfold Wr
  rcases hside with ⟨e, hd⟩ | ⟨e, hd⟩
  · have ex : px = (sd (rg rs r) k).x := by omega
    subst ex
    by_cases hu : (sd (rg rs r) k).y < (sd (rg rs r) (nxt (rg rs r).length k)).y
    · refine M.col_to (a := (sd (rg rs r) k).y) (b := (sd (rg rs r) (nxt (rg rs r).length k)).y) (fun y a b => hap _ _ ?_) (by omega) (by omega)
      unfold OnR On
      simp only
      omega
    · have hh : ∀ y, (sd (rg rs r) (nxt (rg rs r).length k)).y ≤ y → y ≤ (sd (rg rs r) k).y → OnR rs r k (sd (rg rs r) k).x y := fun y a b => by
        unfold OnR On
        simp only
        omega
      rw [M.col_to (a := (sd (rg rs r) (nxt (rg rs r).length k)).y) (b := (sd (rg rs r) k).y) (fun y a b => hap _ _ (hh y a b)) (by omega) (by omega),
        M.col_to (y := (sd (rg rs r) k).y) (a := (sd (rg rs r) (nxt (rg rs r).length k)).y) (b := (sd (rg rs r) k).y) (fun y a b => hap _ _ (hh y a b)) (by omega) (by omega)]
  · have ex : py = (sd (rg rs r) k).y := by omega
    subst ex
    by_cases hu : (sd (rg rs r) k).x < (sd (rg rs r) (nxt (rg rs r).length k)).x
    · refine M.row_to (a := (sd (rg rs r) k).x) (b := (sd (rg rs r) (nxt (rg rs r).length k)).x) (fun y a b => hap _ _ ?_) (by omega) (by omega)
      unfold OnR On
      simp only
      omega
    · have hh : ∀ x, (sd (rg rs r) (nxt (rg rs r).length k)).x ≤ x → x ≤ (sd (rg rs r) k).x → OnR rs r k x (sd (rg rs r) k).y := fun y a b => by
        unfold OnR On
        simp only
        omega
      rw [M.row_to (a := (sd (rg rs r) (nxt (rg rs r).length k)).x) (b := (sd (rg rs r) k).x) (fun y a b => hap _ _ (hh y a b)) (by omega) (by omega),
        M.row_to (x := (sd (rg rs r) k).x) (a := (sd (rg rs r) (nxt (rg rs r).length k)).x) (b := (sd (rg rs r) k).x) (fun y a b => hap _ _ (hh y a b)) (by omega) (by omega)]
theorem Wr_ring {rs : List (List Sd)} (hc : chk rs = 0) {r s : Nat} (hr : r < rs.length) (hs : s < rs.length) (hne : r ≠ s) : ∀ k, k < (rg rs r).length → Wr rs s (sd (rg rs r) k).x (sd (rg rs r) k).y = Wr rs s (sd (rg rs r) 0).x (sd (rg rs r) 0).y :=
  ring_all (fun _ => rfl) fun k hk h => by
    rw [← h]
    refine Wr_along hc hr hs hne hk ?_
    unfold OnR On
    simp only
    omega
theorem ring_lv {rs : List (List Sd)} (hc : chk rs = 0) {r : Nat} (hr : r < rs.length) :
    (∀ k, k < (rg rs r).length → Lv (rg rs r).length (nxt (rg rs r).length) (fun k => (sd (rg rs r) k).x) (fun k => (sd (rg rs r) k).y) k (if r = 0 then 1 else 0)) ∧ ∀ x y, Wr rs r x y = 0 ∨ Wr rs r x y = if r = 0 then 1 else -1 := by
  obtain ⟨hg, hs, hx, hp, _⟩ := chk_parts hc
  obtain ⟨_, h24, _⟩ := chk_ne hc
  have hin := chk_inR hc
  have hm : rg rs r ∈ rs := List.mem_of_getElem? (rg_get hr)
  have hlen := len_le_tot hm
  obtain ⟨L, h01, hL, hv, ha⟩ := ring_one hin hs hx hr
  have h1 : placeRing rs r = true := List.all_eq_true.1 hp r (List.mem_range.2 hr)
  unfold placeRing at h1
  rw [(areaUp_eq (hin _ hm) _ (Nat.le_refl _) (by omega)).1] at h1
  have h5 := (Bool.and_eq_true_iff.1 h1).1
  rw [beq_iff_eq] at h5
  have h6 : sumTo (crossAt (rg rs r)) (rg rs r).length > 0 ↔ r = 0 := by
    rw [← decide_eq_true_iff (p := sumTo (crossAt (rg rs r)) (rg rs r).length > 0), h5, beq_iff_eq]
  have e : L = if r = 0 then 1 else 0 := by
    rcases h01 with e | e
    · subst e
      rw [if_neg (fun h => by have := h6.2 h; omega)]
    · subst e
      rw [if_pos (h6.1 (by omega))]
  refine ⟨fun k hk => by rw [← e]; exact hL k hk, fun x y => ?_⟩
  rcases hv x y with h | h
  · exact .inl h
  · right
    show Wn _ _ _ _ _ _ = _
    rw [h, e]
    split <;> rfl
theorem passB_iff {t u : Sd} (ht : inR t) (hu : inR u) {px py : Int} : passB t u px py = true ↔ u.x = t.x ∧ t.x > px ∧ ¬ (t.y > py ↔ u.y > py) := by
  unfold passB
  rw [w64_id (by have := ht.1; have := ht.2.1; have := hu.1; have := hu.2.1; omega) (by have := ht.1; have := ht.2.1; have := hu.1; have := hu.2.1; omega)]
  simp only [Bool.and_eq_true, beq_iff_eq, decide_eq_true_eq, Bool.not_eq_true', beq_eq_false_iff_ne, ne_eq, decide_eq_decide]
  constructor
  · rintro ⟨⟨h1, h2⟩, h3⟩
    exact ⟨by omega, h2, h3⟩
  · rintro ⟨h1, h2, h3⟩
    exact ⟨⟨by omega, h2⟩, h3⟩
theorem ins_par {l : List Sd} (hin : ∀ s ∈ l, inR s) (ax : axial l) (px py : Int) : ∀ n, n ≤ l.length → (sumTo (fun k => ind (sd l k).x px * (ind (sd l (nxt l.length k)).y py - ind (sd l k).y py)) n) % 2 = if insUp l px py n = true then 1 else 0
  | 0, _ => rfl
  | n + 1, h => by
    have ih := ins_par hin ax px py n (by omega)
    have hp := passB_iff (px := px) (py := py) (sd_inR hin (show n < l.length by omega)) (sd_inR hin (nxt_lt (show n < l.length by omega)))
    have ha := ax n (by omega)
    show (sumTo _ n + ind (sd l n).x px * (ind (sd l (nxt l.length n)).y py - ind (sd l n).y py)) % 2 = if (if passB (sd l n) (sd l (nxt l.length n)) px py = true then !insUp l px py n else insUp l px py n) = true then 1 else 0
    generalize sumTo _ n = A at *
    by_cases hb : passB (sd l n) (sd l (nxt l.length n)) px py = true
    · rw [if_pos hb]
      obtain ⟨h1, h2, h3⟩ := hp.1 hb
      rw [ind_gt h2]
      rcases ind_cases (sd l (nxt l.length n)).y py with ⟨e3, h4⟩ | ⟨e3, h4⟩ <;> rcases ind_cases (sd l n).y py with ⟨e5, h5⟩ | ⟨e5, h5⟩ <;> rw [e3, e5]
      · exact absurd ⟨fun _ => h4, fun _ => h5⟩ h3
      · cases hi : insUp l px py n <;> rw [hi] at ih <;> simp at ih ⊢ <;> omega
      · cases hi : insUp l px py n <;> rw [hi] at ih <;> simp at ih ⊢ <;> omega
      · exact absurd ⟨fun _ => by omega, fun _ => by omega⟩ h3
    · rw [if_neg hb]
      have e : ind (sd l n).x px * (ind (sd l (nxt l.length n)).y py - ind (sd l n).y py) = 0 := by
        rcases ind_cases (sd l n).x px with ⟨e3, h4⟩ | ⟨e3, h4⟩
        · rcases ha with hx | hy
          · have : (sd l n).y > py ↔ (sd l (nxt l.length n)).y > py := Classical.byContradiction fun hn => hb (hp.2 ⟨by omega, h4, hn⟩)
            unfold ind
            by_cases e : (sd l n).y > py
            · rw [if_pos e, if_pos (this.1 e)]; simp
            · rw [if_neg e, if_neg (fun h => e (this.2 h))]; simp
          · rw [show (sd l (nxt l.length n)).y = (sd l n).y by omega]; simp
        · rw [e3, Int.zero_mul]
      rw [e, Int.add_zero]; exact ih
/-- At the corners of a ring the others go round as they must. -/
theorem Wr_at {rs : List (List Sd)} (hc : chk rs = 0) {r s : Nat} (hr : r < rs.length) (hs : s < rs.length) (hne : r ≠ s) : ∀ k, k < (rg rs r).length → Wr rs s (sd (rg rs r) k).x (sd (rg rs r) k).y = if s = 0 then 1 else 0 := by
  obtain ⟨hg, hsh, hx, hp, _⟩ := chk_parts hc
  have hin := chk_inR hc
  have hole : ∀ r s, r < rs.length → s < rs.length → r ≠ s → r ≠ 0 → ∀ k, k < (rg rs r).length → Wr rs s (sd (rg rs r) k).x (sd (rg rs r) k).y = if s = 0 then 1 else 0 := fun r s hr hs hne h0 k hk => by
    rw [Wr_ring hc hr hs hne k hk]
    have h1 : placeRing rs r = true := List.all_eq_true.1 hp r (List.mem_range.2 hr)
    unfold placeRing at h1
    have h2 : placeK rs r s = true := List.all_eq_true.1 (Bool.and_eq_true_iff.1 h1).2 s (List.mem_range.2 hs)
    unfold placeK at h2
    rw [beq_false_of_ne (fun h => hne h.symm), beq_false_of_ne h0, Bool.false_or, Bool.false_or, beq_iff_eq] at h2
    have hm : rg rs s ∈ rs := List.mem_of_getElem? (rg_get hs)
    have h3 := ins_par (hin _ hm) (shp_axial (hin _ hm) (hsh _ hm)) (sd (rg rs r) 0).x (sd (rg rs r) 0).y _ (Nat.le_refl _)
    rw [h2] at h3
    change Wr rs s (sd (rg rs r) 0).x (sd (rg rs r) 0).y % 2 = _ at h3
    have h4 := (ring_lv hc hs).2 (sd (rg rs r) 0).x (sd (rg rs r) 0).y
    by_cases e : s = 0
    · subst e
      rw [if_pos rfl] at h4 ⊢
      rw [if_pos (show ((0 : Nat) == 0) = true from rfl)] at h3
      omega
    · rw [if_neg e] at h4 ⊢
      rw [if_neg (by simp [e])] at h3
      omega
  by_cases h0 : r = 0
  · subst h0
    intro k hk
    have hs0 : s ≠ 0 := fun h => hne h.symm
    rw [if_neg hs0]
    have hm : rg rs 0 ∈ rs := List.mem_of_getElem? (rg_get hr)
    have h4 := shp_len (hsh _ hm)
    obtain ⟨c, hcn, hlow⟩ := lowest (fun _ => 0) (fun k => -(sd (rg rs 0) k).x) (rg rs 0).length (by omega)
    have hmax : ∀ j, j < (rg rs 0).length → (sd (rg rs 0) j).x ≤ (sd (rg rs 0) c).x := fun j hj => by
      have := hlow j hj; omega
    rw [Wr_ring hc hr hs hne k hk, ← Wr_ring hc hr hs hne c hcn]
    refine Wn_right (fun j hj => ?_) _
    have h5 := hole s 0 hs hr hs0 hs0 j hj
    rw [if_pos rfl] at h5
    refine Classical.byContradiction fun hn => ?_
    have h6 : Wr rs 0 (sd (rg rs s) j).x (sd (rg rs s) j).y = 0 := Wn_right (fun i hi => by
      have := hmax i hi
      omega) _
    omega
  · exact hole r s hr hs hne h0
/-- How often all rings go round a cell. -/
def Wt (rs : List (List Sd)) (x y : Int) : Int := sumTo (fun r => Wr rs r x y) rs.length
theorem Wt_cell {rs : List (List Sd)} (hc : chk rs = 0) {r k : Nat} (hr : r < rs.length) (hk : k < (rg rs r).length) {x y : Int} :
    (LC (nxt (rg rs r).length) (fun k => (sd (rg rs r) k).x) (fun k => (sd (rg rs r) k).y) k x y → Wt rs x y = 1) ∧ (RC (nxt (rg rs r).length) (fun k => (sd (rg rs r) k).x) (fun k => (sd (rg rs r) k).y) k x y → Wt rs x y = 0) := by
  have N := chk_net hc hr
  have lv := (ring_lv hc hr).1 k hk
  have others : (LC (nxt (rg rs r).length) (fun k => (sd (rg rs r) k).x) (fun k => (sd (rg rs r) k).y) k x y ∨ RC (nxt (rg rs r).length) (fun k => (sd (rg rs r) k).x) (fun k => (sd (rg rs r) k).y) k x y) → ∀ s, s < rs.length → s ≠ r → Wr rs s x y = if s = 0 then 1 else 0 := fun h s hs hne => by
    obtain ⟨px, py, hon, hx, hy⟩ := N.near hk h
    have hne' : r ≠ s := fun h => hne h.symm
    have h1 : Wr rs s x y = Wr rs s px py := (chk_net hc hs).round (apart (chk_parts hc).2.2.1 hr hs hne' hk hon) hx hy
    rw [h1, Wr_along hc hr hs hne' hk hon]
    exact Wr_at hc hr hs hne' k hk
  have one : sumTo (fun s => if s = 0 then (1 : Int) else 0) rs.length = 1 := by
    rw [sumTo_one (j := 0) rs.length (by omega) (fun i _ hi => if_neg hi)]; rfl
  constructor
  · intro h
    unfold Wt
    rw [← one]
    refine sumTo_congr _ fun s hs => ?_
    by_cases e : s = r
    · subst e; exact lv.1 x y h
    · exact others (.inl h) s hs e
  · intro h
    have e2 : sumTo (fun s => (if s = 0 then (1 : Int) else 0) - (if s = r then 1 else 0)) rs.length = 0 := by
      rw [sumTo_sub, one, sumTo_one (f := fun s => if s = r then (1 : Int) else 0) (j := r) rs.length hr (fun i _ hi => if_neg hi), if_pos rfl]; rfl
    unfold Wt
    rw [← e2]
    refine sumTo_congr _ fun s hs => ?_
    by_cases e : s = r
    · subst e
      rw [if_pos rfl]
      exact lv.2 x y h
    · rw [if_neg e, Int.sub_zero]
      exact others (.inr h) s hs e
theorem Wt_ray {rs : List (List Sd)} (hc : chk rs = 0) (y : Int) : ∀ d : Nat, Wt rs (65536 - d) y = 0 ∨ Wt rs (65536 - d) y = 1
  | 0 => .inl (sumTo_zero _ fun r hr => Wn_right (fun k hk => by
      have := (sd_inR (chk_inR hc _ (List.mem_of_getElem? (rg_get hr))) hk).2.1
      omega) y)
  | d + 1 => by
    have ih := Wt_ray hc y d
    rw [show (65536 : Int) - ((d + 1 : Nat) : Int) = 65536 - d - 1 by omega]
    by_cases h : ∃ r k, r < rs.length ∧ k < (rg rs r).length ∧ Vd (nxt (rg rs r).length) (fun k => (sd (rg rs r) k).x) (fun k => (sd (rg rs r) k).y) (65536 - d) y k ≠ 0
    · obtain ⟨r, k, hr, hk, h⟩ := h
      rcases vd_cell h with ⟨h, _⟩ | ⟨h, _⟩
      · exact .inr ((Wt_cell hc hr hk).1 h)
      · exact .inl ((Wt_cell hc hr hk).2 h)
    · have : Wt rs (65536 - d - 1) y = Wt rs (65536 - d) y := sumTo_congr _ fun r hr => by
        have h1 := Wn_x (T := (rg rs r).length) (σ := nxt (rg rs r).length) (X := fun k => (sd (rg rs r) k).x) (Y := fun k => (sd (rg rs r) k).y) (65536 - d) y
        rw [sumTo_zero _ (fun k hk => Classical.byContradiction fun hn => h ⟨r, k, hr, hk, hn⟩)] at h1
        show Wn _ _ _ _ _ _ = Wn _ _ _ _ _ _
        omega
      rw [this]; exact ih
/-- A cell lies in a valid plan once or not at all. -/
theorem Wt_01 {rs : List (List Sd)} (hc : chk rs = 0) (x y : Int) : Wt rs x y = 0 ∨ Wt rs x y = 1 := by
  by_cases h : x ≤ 65536
  · have := Wt_ray hc y (65536 - x).toNat
    rwa [show (65536 : Int) - ((65536 - x).toNat : Int) = x by omega] at this
  · exact .inl (sumTo_zero _ fun r hr => Wn_right (fun k hk => by
      have := (sd_inR (chk_inR hc _ (List.mem_of_getElem? (rg_get hr))) hk).2.1
      omega) y)
theorem Wt_range {rs : List (List Sd)} (hc : chk rs = 0) {x y : Int} (h : Wt rs x y ≠ 0) : (0 ≤ x ∧ x < 65536) ∧ 0 ≤ y ∧ y < 65536 :=
  Classical.byContradiction fun hn => h (sumTo_zero _ fun _ hr => Classical.byContradiction fun h1 => hn ((chk_net hc hr).range
    (fun _ hk => ⟨(sd_inR (chk_inR hc _ (List.mem_of_getElem? (rg_get hr))) hk).1, (sd_inR (chk_inR hc _ (List.mem_of_getElem? (rg_get hr))) hk).2.1⟩)
    (fun _ hk => ⟨(sd_inR (chk_inR hc _ (List.mem_of_getElem? (rg_get hr))) hk).2.2.1, (sd_inR (chk_inR hc _ (List.mem_of_getElem? (rg_get hr))) hk).2.2.2⟩) h1))
end Go.Proofs.YtnpfkmbcejgnjaaGreatDoor
