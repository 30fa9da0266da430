/-
  Plain facts: the area of a valid plan is the sum over the levels of a scan.
-/
import Derived.Test.YtnpfkmbcejgnjaaGreatDoorAreaMath
import Derived.Test.YtnpfkmbcejgnjaaGreatDoorAreaF
namespace Go.Proofs.YtnpfkmbcejgnjaaGreatDoor
open Go Go.RowKit Go.Am
/-- How many numbers are greater. -/
def cnt (x : Int) : List Int → Int
  | [] => 0
  | a :: l => ind a x + cnt x l
theorem cnt_append (x : Int) : ∀ l m : List Int, cnt x (l ++ m) = cnt x l + cnt x m
  | [], m => by show cnt x m = 0 + cnt x m; omega
  | a :: l, m => by
    show ind a x + cnt x (l ++ m) = ind a x + cnt x l + cnt x m
    rw [cnt_append x l m]; omega
theorem cnt_perm (x : Int) {l m : List Int} (h : l.Perm m) : cnt x l = cnt x m := by
  induction h with
  | nil => rfl
  | cons a _ ih => show ind a x + _ = ind a x + _; rw [ih]
  | swap a b l => show ind b x + (ind a x + cnt x l) = ind a x + (ind b x + cnt x l); omega
  | trans _ _ h1 h2 => rw [h1, h2]
theorem cnt_all {x : Int} : ∀ {l : List Int}, (∀ e ∈ l, e > x) → cnt x l = l.length
  | [], _ => rfl
  | a :: l, h => by
    show ind a x + cnt x l = _
    rw [ind_gt (h a (List.mem_cons_self ..)), cnt_all fun e he => h e (List.mem_cons_of_mem _ he), List.length_cons]; omega
/-- The lengths between the first and the second number, the third and the fourth, .. -/
def wid : List Int → Int
  | a :: b :: l => (b - a) + wid l
  | _ => 0
theorem wid_sum : ∀ l : List Int, l.Pairwise (· ≤ ·) → (∀ e ∈ l, 0 ≤ e ∧ e ≤ 65536) → l.length % 2 = 0 → wid l = sumTo (fun x : Nat => cnt x l % 2) 65536
  | [], _, _, _ => (sumTo_zero _ (fun _ _ => rfl)).symm
  | [_], _, _, h => by simp at h
  | a :: b :: l, hs, hb, he => by
    have he' : l.length % 2 = 0 := by simp only [List.length_cons] at he; omega
    obtain ⟨h1, h2⟩ := List.pairwise_cons.1 hs
    obtain ⟨h3, h4⟩ := List.pairwise_cons.1 h2
    have ih := wid_sum l h4 (fun e h => hb e (List.mem_cons_of_mem _ (List.mem_cons_of_mem _ h))) he'
    have hab := h1 b (List.mem_cons_self ..)
    have ha := hb a (List.mem_cons_self ..)
    have hbb := hb b (List.mem_cons_of_mem _ (List.mem_cons_self ..))
    have e : sumTo (fun x : Nat => cnt x (a :: b :: l) % 2) 65536 = sumTo (fun x : Nat => cnt x l % 2 + (ind b x - ind a x)) 65536 := sumTo_congr _ fun x _ => by
      show (ind a x + (ind b x + cnt x l)) % 2 = cnt x l % 2 + (ind b x - ind a x)
      rcases ind_cases a x with ⟨e1, g1⟩ | ⟨e1, g1⟩ <;> rcases ind_cases b x with ⟨e2, g2⟩ | ⟨e2, g2⟩ <;> rw [e1, e2]
      · omega
      · omega
      · have := cnt_all (x := x) (l := l) fun e he => by have := h3 e he; omega
        omega
      · omega
    rw [e, sumTo_add, ← ih, sumTo_sub, ind_total (m := 65536) hbb.1 hbb.2, ind_total (m := 65536) ha.1 ha.2]
    show b - a + wid l = _
    omega
/-! ### The sides that cross a slab -/
def slabB (t u : Sd) (a b : Int) : Bool := (t.x == u.x) && decide (loy t u ≤ a) && decide (hiy t u ≥ b)
def xsUp (l : List Sd) (a b : Int) : Nat → List Int
  | 0 => []
  | k + 1 => if slabB (sd l k) (sd l (nxt l.length k)) a b = true then xsUp l a b k ++ [(sd l k).x] else xsUp l a b k
def xsRs (rs : List (List Sd)) (a b : Int) : Nat → List Int
  | 0 => []
  | r + 1 => xsRs rs a b r ++ xsUp (rg rs r) a b (rg rs r).length
theorem slab_iff {t u : Sd} {a b : Int} : slabB t u a b = true ↔ t.x = u.x ∧ (t.y ≤ a ∨ u.y ≤ a) ∧ (b ≤ t.y ∨ b ≤ u.y) := by
  unfold slabB loy hiy
  simp only [Bool.and_eq_true, beq_iff_eq, decide_eq_true_eq]
  constructor
  · rintro ⟨⟨h1, h2⟩, h3⟩
    refine ⟨h1, ?_, ?_⟩
    · split at h2 <;> omega
    · split at h3 <;> omega
  · rintro ⟨h1, h2, h3⟩
    refine ⟨⟨h1, ?_⟩, ?_⟩
    · split <;> omega
    · split <;> omega
theorem cnt_up {l : List Sd} (ax : axial l) {a b : Int} (hab : a < b) (gap : ∀ k, k < l.length → (sd l k).y ≤ a ∨ b ≤ (sd l k).y) (x : Int) : ∀ n, n ≤ l.length →
    (cnt x (xsUp l a b n) - sumTo (fun k => ind (sd l k).x x * (ind (sd l (nxt l.length k)).y a - ind (sd l k).y a)) n) % 2 = 0
  | 0, _ => rfl
  | n + 1, h => by
    have ih := cnt_up ax hab gap x n (by omega)
    have ha := ax n (by omega)
    have g1 := gap n (by omega)
    have g2 := gap _ (nxt_lt (show n < l.length by omega))
    have hp := slab_iff (t := sd l n) (u := sd l (nxt l.length n)) (a := a) (b := b)
    show (cnt x (if slabB (sd l n) (sd l (nxt l.length n)) a b = true then xsUp l a b n ++ [(sd l n).x] else xsUp l a b n) - (sumTo _ n + ind (sd l n).x x * (ind (sd l (nxt l.length n)).y a - ind (sd l n).y a))) % 2 = 0
    generalize sumTo _ n = A at *
    by_cases hb : slabB (sd l n) (sd l (nxt l.length n)) a b = true
    · rw [if_pos hb, cnt_append]
      obtain ⟨h1, h2, h3⟩ := hp.1 hb
      show (cnt x (xsUp l a b n) + (ind (sd l n).x x + 0) - _) % 2 = 0
      rcases ind_cases (sd l n).x x with ⟨e3, h4⟩ | ⟨e3, h4⟩ <;> rw [e3]
      · rcases ind_cases (sd l (nxt l.length n)).y a with ⟨e3, h4⟩ | ⟨e3, h4⟩ <;> rcases ind_cases (sd l n).y a with ⟨e5, h5⟩ | ⟨e5, h5⟩ <;> rw [e3, e5] <;> omega
      · rw [Int.zero_mul]; omega
    · rw [if_neg hb]
      have e : ind (sd l n).x x * (ind (sd l (nxt l.length n)).y a - ind (sd l n).y a) = 0 := by
        rcases ha with hx | hy
        · have : (sd l n).y > a ↔ (sd l (nxt l.length n)).y > a := by
            refine Classical.byContradiction fun hn => hb (hp.2 ⟨hx, ?_, ?_⟩) <;> omega
          unfold ind
          by_cases e : (sd l n).y > a
          · rw [if_pos e, if_pos (this.1 e)]; simp
          · rw [if_neg e, if_neg (fun h => e (this.2 h))]; simp
        · rw [hy]; simp
      rw [e, Int.add_zero]; exact ih
theorem cnt_rs {rs : List (List Sd)} (hc : chk rs = 0) {a b : Int} (hab : a < b) (gap : ∀ r k, r < rs.length → k < (rg rs r).length → (sd (rg rs r) k).y ≤ a ∨ b ≤ (sd (rg rs r) k).y) (x : Int) : ∀ n, n ≤ rs.length →
    (cnt x (xsRs rs a b n) - sumTo (fun r => Wr rs r x a) n) % 2 = 0
  | 0, _ => rfl
  | n + 1, h => by
    have ih := cnt_rs hc hab gap x n (by omega)
    have hm : rg rs n ∈ rs := List.mem_of_getElem? (rg_get (by omega))
    have h1 := cnt_up (shp_axial (chk_inR hc _ hm) ((chk_parts hc).2.1 _ hm)) hab (fun k hk => gap n k (by omega) hk) x _ (Nat.le_refl _)
    show (cnt x (xsRs rs a b n ++ xsUp (rg rs n) a b (rg rs n).length) - (sumTo (fun r => Wr rs r x a) n + Wr rs n x a)) % 2 = 0
    rw [cnt_append]
    change (cnt x (xsUp (rg rs n) a b (rg rs n).length) - Wr rs n x a) % 2 = 0 at h1
    omega
theorem mem_xsUp {l : List Sd} (hin : ∀ s ∈ l, inR s) {a b : Int} : ∀ n, n ≤ l.length → ∀ e ∈ xsUp l a b n, 0 ≤ e ∧ e ≤ 65536
  | 0, _, e, h => by cases h
  | n + 1, hn, e, h => by
    change e ∈ (if _ then _ else _) at h
    split at h
    · rcases List.mem_append.1 h with h | h
      · exact mem_xsUp hin n (by omega) e h
      · obtain rfl := List.mem_singleton.1 h
        have := sd_inR hin (show n < l.length by omega)
        exact ⟨this.1, this.2.1⟩
    · exact mem_xsUp hin n (by omega) e h
theorem mem_xsRs {rs : List (List Sd)} (hin : allR rs) {a b : Int} : ∀ n, n ≤ rs.length → ∀ e ∈ xsRs rs a b n, 0 ≤ e ∧ e ≤ 65536
  | 0, _, e, h => by cases h
  | n + 1, hn, e, h => by
    rcases List.mem_append.1 h with h | h
    · exact mem_xsRs hin n (by omega) e h
    · exact mem_xsUp (hin _ (List.mem_of_getElem? (rg_get (by omega)))) _ (Nat.le_refl _) e h
theorem len_xsUp (l : List Sd) (a b : Int) : ∀ n, (xsUp l a b n).length ≤ n
  | 0 => Nat.le_refl _
  | n + 1 => by
    have := len_xsUp l a b n
    show (if _ then _ else _ : List Int).length ≤ _
    split
    · rw [List.length_append, List.length_singleton]; omega
    · omega
theorem len_xsRs (rs : List (List Sd)) (a b : Int) : ∀ n, n ≤ rs.length → (xsRs rs a b n).length ≤ tot (rs.take n)
  | 0, _ => by simp [xsRs]
  | n + 1, h => by
    have h1 := len_xsRs rs a b n (by omega)
    have h2 := len_xsUp (rg rs n) a b (rg rs n).length
    rw [tot_take_succ (show n < rs.length by omega)]
    show (_ ++ _ : List Int).length ≤ _
    rw [List.length_append]; omega
/-- The length of a row. -/
def rowN (rs : List (List Sd)) (y : Int) : Int := sumTo (fun x : Nat => Wt rs x y) 65536
theorem row_wid {rs : List (List Sd)} (hc : chk rs = 0) {a b : Int} (hab : a < b) (gap : ∀ r k, r < rs.length → k < (rg rs r).length → (sd (rg rs r) k).y ≤ a ∨ b ≤ (sd (rg rs r) k).y) {s : List Int} (hp : s.Perm (xsRs rs a b rs.length)) (hs : s.Pairwise (· ≤ ·)) :
    wid s = rowN rs a ∧ s.length % 2 = 0 := by
  have hin := chk_inR hc
  have hb : ∀ e ∈ s, 0 ≤ e ∧ e ≤ 65536 := fun e he => mem_xsRs hin _ (Nat.le_refl _) e (hp.mem_iff.1 he)
  have hcn : ∀ x, cnt x s % 2 = Wt rs x a := fun x => by
    have h1 := cnt_rs hc hab gap x _ (Nat.le_refl _)
    rw [← cnt_perm x hp] at h1
    change (cnt x s - Wt rs x a) % 2 = 0 at h1
    rcases Wt_01 hc x a with h | h <;> rw [h] at h1 ⊢ <;> omega
  have he : s.length % 2 = 0 := by
    have h1 := hcn (-1)
    rw [cnt_all fun e he => by have := hb e he; omega] at h1
    have h2 : Wt rs (-1) a = 0 := Classical.byContradiction fun h => by
      have := Wt_range hc h; omega
    omega
  refine ⟨?_, he⟩
  rw [wid_sum s hs hb he]
  exact sumTo_congr _ fun x _ => hcn x
/-! ### Rows -/
theorem sumA_eq {rs : List (List Sd)} (h : chk rs = 0) : ∀ k, k ≤ rs.length → sumA rs k = sumTo (fun r => sumTo (crossAt (rg rs r)) (rg rs r).length) k
  | 0, _ => rfl
  | k + 1, hk => by
    obtain ⟨hr, hs, _⟩ := chk_parts h
    obtain ⟨_, hT, _⟩ := chk_ne h
    obtain ⟨m, e, b1, b2⟩ := sumA_even h k (by omega)
    have hmem : rg rs k ∈ rs := List.mem_of_getElem? (rg_get (by omega))
    have hin : ∀ s ∈ rg rs k, inR s := fun s hx => rgd_inR (hr _ hmem s hx)
    have hlen := len_le_tot hmem
    obtain ⟨e1, c1, c2⟩ := areaUp_eq hin (rg rs k).length (Nat.le_refl _) (by omega)
    have ht2 := tot_take_le rs k
    show w64 (sumA rs k + areaUp (rg rs k) (rg rs k).length) = sumTo _ k + sumTo (crossAt (rg rs k)) (rg rs k).length
    rw [w64_id (by omega) (by omega), sumA_eq h k (by omega), e1]
theorem cells_swap (f : Nat → Nat → Nat → Int) (R M : Nat) : sumTo (fun r => sumTo (fun x => sumTo (fun y => f r x y) M) M) R = sumTo (fun y => sumTo (fun x => sumTo (fun r => f r x y) R) M) M := by
  rw [sumTo_swap (fun r x => sumTo (fun y => f r x y) M)]
  rw [sumTo_congr M (fun x _ => sumTo_swap (fun r y => f r x y) M R)]
  exact sumTo_swap (fun x y => sumTo (fun r => f r x y) R) M M
theorem areaN_cells {rs : List (List Sd)} (hc : chk rs = 0) : areaN rs = sumTo (fun y : Nat => rowN rs y) 65536 := by
  have h1 : sumA rs rs.length = 2 * sumTo (fun y : Nat => rowN rs y) 65536 := by
    rw [sumA_eq hc _ (Nat.le_refl _)]
    have e : ∀ r, r < rs.length → sumTo (crossAt (rg rs r)) (rg rs r).length = 2 * sumTo (fun x : Nat => sumTo (fun y : Nat => Wr rs r x y) 65536) 65536 := fun r hr =>
      (chk_net hc hr).area (M := 65536) (fun k hk => ⟨(sd_inR (chk_inR hc _ (List.mem_of_getElem? (rg_get hr))) hk).1, (sd_inR (chk_inR hc _ (List.mem_of_getElem? (rg_get hr))) hk).2.1⟩)
        (fun k hk => ⟨(sd_inR (chk_inR hc _ (List.mem_of_getElem? (rg_get hr))) hk).2.2.1, (sd_inR (chk_inR hc _ (List.mem_of_getElem? (rg_get hr))) hk).2.2.2⟩)
    rw [sumTo_congr _ e, sumTo_mul]
    exact congrArg (fun z : Int => 2 * z) (cells_swap (fun r (x y : Nat) => Wr rs r x y) rs.length 65536)
  unfold areaN
  omega
theorem areaN_pos {rs : List (List Sd)} (hc : chk rs = 0) : 0 < areaN rs := by
  have hn : ∀ x y, 0 ≤ Wt rs x y := fun x y => by rcases Wt_01 hc x y with h | h <;> omega
  obtain ⟨hne, _, h0⟩ := chk_ne hc
  have hR : 0 < rs.length := by
    cases rs with
    | nil => exact absurd rfl h0
    | cons => simp
  have hm : rg rs 0 ∈ rs := List.mem_of_getElem? (rg_get hR)
  have h4 := shp_len ((chk_parts hc).2.1 _ hm)
  have N := chk_net hc hR
  have hcell : ∃ x y, LC (nxt (rg rs 0).length) (fun k => (sd (rg rs 0) k).x) (fun k => (sd (rg rs 0) k).y) 0 x y := by
    have := N.side 0 (by omega)
    unfold LC
    simp only at this ⊢
    by_cases a : (sd (rg rs 0) 0).y < (sd (rg rs 0) (nxt (rg rs 0).length 0)).y
    · exact ⟨(sd (rg rs 0) 0).x - 1, (sd (rg rs 0) 0).y, by omega⟩
    by_cases a2 : (sd (rg rs 0) (nxt (rg rs 0).length 0)).y < (sd (rg rs 0) 0).y
    · exact ⟨(sd (rg rs 0) 0).x, (sd (rg rs 0) (nxt (rg rs 0).length 0)).y, by omega⟩
    by_cases a3 : (sd (rg rs 0) 0).x < (sd (rg rs 0) (nxt (rg rs 0).length 0)).x
    · exact ⟨(sd (rg rs 0) 0).x, (sd (rg rs 0) 0).y, by omega⟩
    · exact ⟨(sd (rg rs 0) (nxt (rg rs 0).length 0)).x, (sd (rg rs 0) 0).y - 1, by omega⟩
  obtain ⟨x, y, hcell⟩ := hcell
  have h1 := (Wt_cell hc hR (show 0 < (rg rs 0).length by omega)).1 hcell
  obtain ⟨⟨x1, x2⟩, y1, y2⟩ := Wt_range hc (show Wt rs x y ≠ 0 by omega)
  rw [areaN_cells hc]
  refine sumTo_pos (j := y.toNat) _ (fun i _ => sumTo_nonneg _ fun j _ => hn _ _) (by omega) ?_
  refine sumTo_pos (j := x.toNat) _ (fun j _ => hn _ _) (by omega) ?_
  rw [show ((x.toNat : Nat) : Int) = x by omega, show ((y.toNat : Nat) : Int) = y by omega, h1]
  decide
theorem sumTo_run {g : Nat → Int} {a : Nat} {c : Int} : ∀ d : Nat, (∀ y, a ≤ y → y < a + d → g y = c) → sumTo g (a + d) = sumTo g a + c * d
  | 0, _ => by simp
  | d + 1, h => by
    show sumTo g (a + d) + g (a + d) = _
    rw [sumTo_run d fun y p q => h y p (by omega), h (a + d) (by omega) (by omega), Int.natCast_add, Int.mul_add]
    simp; omega
theorem sumTo_more {g : Nat → Int} {a b : Nat} (h : a ≤ b) (h0 : ∀ y, a ≤ y → y < b → g y = 0) : sumTo g b = sumTo g a := by
  have := sumTo_run (g := g) (a := a) (c := 0) (b - a) fun y p q => h0 y p (by omega)
  rw [show a + (b - a) = b by omega] at this
  omega
/-- The area is the sum over the slabs between successive levels of corners. -/
theorem scan_area {rs : List (List Sd)} (hc : chk rs = 0) {m : Nat} {y : Nat → Int} (h0 : 0 < m) (hup : ∀ i, i + 1 < m → y i < y (i + 1)) (hy : ∀ i, i < m → 0 ≤ y i ∧ y i ≤ 65536) (hall : ∀ r k, r < rs.length → k < (rg rs r).length → ∃ i, i < m ∧ (sd (rg rs r) k).y = y i) :
    sumTo (fun i => rowN rs (y i) * (y (i + 1) - y i)) (m - 1) = areaN rs := by
  have mono : ∀ d i, i + d < m → y i ≤ y (i + d) := fun d => by
    induction d with
    | zero => exact fun i _ => Int.le_refl _
    | succ d ih =>
      intro i h
      have h1 := ih i (by omega)
      have h2 := hup (i + d) (by omega)
      rw [show i + (d + 1) = i + d + 1 by omega]; omega
  have mono' : ∀ i j, i ≤ j → j < m → y i ≤ y j := fun i j h h2 => by
    have := mono (j - i) i (by omega)
    rwa [show i + (j - i) = j by omega] at this
  -- a row depends on the corners below it alone
  have same : ∀ z z' : Int, (∀ i, i < m → (y i > z ↔ y i > z')) → rowN rs z = rowN rs z' := fun z z' h =>
    sumTo_congr _ fun x _ => sumTo_congr _ fun r hr => sumTo_congr _ fun k hk => by
      have e : ∀ k, k < (rg rs r).length → ind (sd (rg rs r) k).y z = ind (sd (rg rs r) k).y z' := fun k hk => by
        obtain ⟨i, hi, e⟩ := hall r k hr hk
        have := h i hi
        rw [e]
        unfold ind
        by_cases g : y i > z
        · rw [if_pos g, if_pos (this.1 g)]
        · rw [if_neg g, if_neg (fun g' => g (this.2 g'))]
      simp only
      rw [e k hk, e _ (nxt_lt hk)]
  have zero : ∀ z : Int, ((∀ i, i < m → y i > z) ∨ ∀ i, i < m → y i ≤ z) → rowN rs z = 0 := fun z h =>
    sumTo_zero _ fun x _ => sumTo_zero _ fun r hr => sumTo_zero _ fun k hk => by
      obtain ⟨i, hi, e⟩ := hall r k hr hk
      obtain ⟨j, hj, e2⟩ := hall r _ hr (nxt_lt hk)
      simp only
      rw [e, e2]
      rcases h with h | h
      · rw [ind_gt (h i hi), ind_gt (h j hj)]; simp
      · rw [ind_le (h i hi), ind_le (h j hj)]; simp
  have part : ∀ n, n < m → sumTo (fun i => rowN rs (y i) * (y (i + 1) - y i)) n = sumTo (fun z : Nat => rowN rs z) (y n).toNat - sumTo (fun z : Nat => rowN rs z) (y 0).toNat := fun n => by
    induction n with
    | zero => intro _; show (0 : Int) = _; omega
    | succ n ih =>
      intro hn
      have i1 := ih (by omega)
      have u1 := hup n hn
      have b1 := hy n (by omega)
      have b2 := hy (n + 1) hn
      show sumTo _ n + rowN rs (y n) * (y (n + 1) - y n) = _
      have r1 := sumTo_run (g := fun z : Nat => rowN rs z) (a := (y n).toNat) (c := rowN rs (y n)) ((y (n + 1)).toNat - (y n).toNat) fun z p q => same _ _ fun i hi => by
        by_cases e : i ≤ n
        · have := mono' i n e (by omega)
          omega
        · have := mono' (n + 1) i (by omega) hi
          omega
      rw [show (y n).toNat + ((y (n + 1)).toNat - (y n).toNat) = (y (n + 1)).toNat by omega, show (((y (n + 1)).toNat - (y n).toNat : Nat) : Int) = y (n + 1) - y n by omega] at r1
      rw [i1, r1]; omega
  rw [part (m - 1) (by omega), areaN_cells hc]
  have z0 : sumTo (fun z : Nat => rowN rs z) (y 0).toNat = 0 := sumTo_zero _ fun z hz => zero _ (.inl fun i hi => by
    have := mono' 0 i (by omega) hi
    have := hy 0 h0
    omega)
  have b1 := hy (m - 1) (by omega)
  rw [z0, sumTo_more (g := fun z : Nat => rowN rs z) (show (y (m - 1)).toNat ≤ 65536 by omega) fun z p q => zero _ (.inr fun i hi => by
    have := mono' i (m - 1) (by omega) (by omega)
    omega)]
  omega
end Go.Proofs.YtnpfkmbcejgnjaaGreatDoor
