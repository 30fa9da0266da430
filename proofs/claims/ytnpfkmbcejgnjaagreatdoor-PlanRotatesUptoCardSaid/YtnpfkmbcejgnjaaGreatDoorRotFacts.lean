/-
  Plain facts: what the law on turns needs.
-/
import Derived.Test.YtnpfkmbcejgnjaaGreatDoorRotTurn
namespace Go.Proofs.YtnpfkmbcejgnjaaGreatDoor
open Go Go.RowKit Go.Am
theorem qn_mod (n : Int) : qn n = n % 4 := by
  have h1 : -4 < Int.tmod n 4 := by have := Int.lt_tmod_of_pos n (show (0 : Int) < 4 by decide); omega
  have h2 : Int.tmod n 4 < 4 := Int.tmod_lt_of_pos n (by decide)
  have h3 := Int.mul_tdiv_add_tmod n 4
  unfold qn
  rw [w64_id (by omega) (by omega), Int.tmod_eq_emod_of_nonneg (by omega)]
  omega
theorem locF_in {rs : List (List Sd)} {n : Int} : ∀ k, k ≤ rs.length → ∀ q, locF rs n k = some q → q.1 < k ∧ q.2 < (rg rs q.1).length
  | 0, _, q, h => by cases h
  | k + 1, hk, q, h => by
    have ht := tot_take_succ (show k < rs.length by omega)
    have h' : (match locF rs n k with | some q => some q | none => if (tot (rs.take k) : Int) ≤ n ∧ n < tot (rs.take (k + 1)) then some (k, (n - tot (rs.take k)).toNat) else none) = some q := h
    cases hq : locF rs n k with
    | some q2 =>
      rw [hq] at h'
      obtain rfl : q2 = q := by simpa using h'
      obtain ⟨h1, h2⟩ := locF_in k (by omega) q2 hq
      exact ⟨by omega, h2⟩
    | none =>
      rw [hq] at h'
      simp only at h'
      split at h'
      · rename_i hc
        obtain rfl := Option.some.inj h'
        exact ⟨by simp only; omega, by simp only; omega⟩
      · cases h'
theorem locF_some {rs : List (List Sd)} {n : Int} (h0 : 0 ≤ n) : ∀ k, k ≤ rs.length → n < tot (rs.take k) → ∃ q, locF rs n k = some q
  | 0, _, h => by simp [tot] at h; omega
  | k + 1, hk, h => by
    show ∃ q, (match locF rs n k with | some q => some q | none => if (tot (rs.take k) : Int) ≤ n ∧ n < tot (rs.take (k + 1)) then some (k, (n - tot (rs.take k)).toNat) else none) = some q
    cases hq : locF rs n k with
    | some q => exact ⟨q, rfl⟩
    | none =>
      by_cases hlt : n < tot (rs.take k)
      · obtain ⟨q, h1⟩ := locF_some h0 k (by omega) hlt
        rw [hq] at h1; cases h1
      · simp only
        rw [if_pos ⟨by omega, h⟩]
        exact ⟨_, rfl⟩
theorem loc_some {rs : List (List Sd)} {n : Int} (h0 : 0 ≤ n) (h : n < tot rs) : ∃ q, loc rs n = some q ∧ q.1 < rs.length ∧ q.2 < (rg rs q.1).length := by
  obtain ⟨q, hq⟩ := locF_some (rs := rs) h0 rs.length (Nat.le_refl _) (by rw [List.take_length]; exact h)
  exact ⟨q, hq, locF_in rs.length (Nat.le_refl _) q hq⟩
theorem tot_take_map (f : Sd → Sd) (rs : List (List Sd)) (k : Nat) : tot ((rs.map (fun l : List Sd => l.map f)).take k) = tot (rs.take k) := by rw [← List.map_take, tot_map]
theorem locF_map (f : Sd → Sd) (rs : List (List Sd)) (n : Int) : ∀ k, locF (rs.map (fun l : List Sd => l.map f)) n k = locF rs n k
  | 0 => rfl
  | k + 1 => by
    show (match locF (rs.map (fun l : List Sd => l.map f)) n k with | some q => some q | none => if (tot ((rs.map (fun l : List Sd => l.map f)).take k) : Int) ≤ n ∧ n < tot ((rs.map (fun l : List Sd => l.map f)).take (k + 1)) then some (k, (n - tot ((rs.map (fun l : List Sd => l.map f)).take k)).toNat) else none) = _
    rw [locF_map f rs n k, tot_take_map, tot_take_map]; rfl
theorem loc_map (f : Sd → Sd) (rs : List (List Sd)) (n : Int) : loc (rs.map (·.map f)) n = loc rs n := by
  unfold loc
  rw [List.length_map]; exact locF_map f rs n _
/-- A side without its place. -/
def bare (s : Sd) : Sd := { s with x := 0, y := 0 }
theorem qN_map (rs : List (List Sd)) : ∀ n, ∃ f : Sd → Sd, qN n rs = rs.map (·.map f) ∧ ∀ s, bare (f s) = bare s
  | 0 => ⟨id, (map_id2 (fun _ => rfl) rs).symm, fun _ => rfl⟩
  | n + 1 => by
    obtain ⟨f, h1, h2⟩ := qN_map rs n
    refine ⟨fun s => qt (f s), ?_, fun s => ?_⟩
    · show qtR (qN n rs) = _
      rw [h1]; exact map_map2 f qt rs
    · rw [← h2 s]; rfl
theorem rotT_map (n : Nat) (rs : List (List Sd)) : ∃ f : Sd → Sd, rotT n rs = rs.map (·.map f) ∧ ∀ s, bare (f s) = bare s := by
  obtain ⟨f, h1, h2⟩ := qN_map rs n
  unfold rotT
  generalize (lstL rs.flatten).1 - (lstL (qN n rs).flatten).1 = a
  generalize (lstL rs.flatten).2 - (lstL (qN n rs).flatten).2 = b
  refine ⟨fun s => tr a b (f s), ?_, fun s => ?_⟩
  · rw [h1]; exact map_map2 f (tr a b) rs
  · rw [← h2 s]; rfl
theorem chk_qN {rs : List (List Sd)} (h : chk rs = 0) : ∀ n, chk (qN n rs) = 0
  | 0 => h
  | n + 1 => chk_q (chk_qN h n)
theorem chk_rotT {rs : List (List Sd)} (h : chk rs = 0) {n : Nat} (h3 : (rotT n rs).flatten.any (fun s => !rgd s) = false) : chk (rotT n rs) = 0 := chk_tr (chk_qN h n) h3
theorem chk_allR {rs : List (List Sd)} (h : chk rs = 0) : allR rs := fun l hl s hs => rgd_inR ((chk_parts h).1 l hl s hs)
theorem areaN_qN {rs : List (List Sd)} (h : chk rs = 0) : ∀ n, areaN (qN n rs) = areaN rs
  | 0 => rfl
  | n + 1 => by
    obtain ⟨_, h24, _⟩ := chk_ne (chk_qN h n)
    show areaN (qtR (qN n rs)) = _
    rw [areaN_q (chk_allR (chk_qN h n)) (by omega), areaN_qN h n]
theorem areaN_rotT {rs : List (List Sd)} (h : chk rs = 0) {n : Nat} (h3 : (rotT n rs).flatten.any (fun s => !rgd s) = false) : areaN (rotT n rs) = areaN rs := by
  obtain ⟨_, h24, _⟩ := chk_ne (chk_qN h n)
  rw [← areaN_qN h n]
  exact areaN_tr (chk_allR (chk_qN h n)) (chk_allR (chk_rotT h h3)) (by omega)
theorem lefq_qN {rs : List (List Sd)} (h : chk rs = 0) {q : Nat × Nat} (hq1 : q.1 < rs.length) (hq2 : q.2 < (rg rs q.1).length) : ∀ n, lefq (qN n rs) q = lefq rs q
  | 0 => rfl
  | n + 1 => by
    obtain ⟨f, h1, _⟩ := qN_map rs n
    show lefq (qtR (qN n rs)) q = _
    rw [lefq_q (chk_allR (chk_qN h n)) (by rw [qN_len]; exact hq1) (by rw [h1, map_len]; exact hq2), lefq_qN h hq1 hq2 n]
theorem lefq_rotT {rs : List (List Sd)} (h : chk rs = 0) {q : Nat × Nat} (hq1 : q.1 < rs.length) (hq2 : q.2 < (rg rs q.1).length) (n : Nat) : lefq (rotT n rs) q = lefq rs q := by
  obtain ⟨f, h1, _⟩ := qN_map rs n
  unfold rotT
  rw [lefq_tr _ _ (by rw [h1, map_len]; exact hq2), lefq_qN h hq1 hq2 n]
theorem rotT_rgd {rs : List (List Sd)} (h : chk rs = 0) (n : Nat) (hin : allR (rotT n rs)) : (rotT n rs).flatten.any (fun s => !rgd s) = false := by
  obtain ⟨f, h1, h2⟩ := rotT_map n rs
  refine any_rgd_mk fun l hl s hs => ?_
  obtain ⟨s1, s2, s3, s4⟩ := hin l hl s hs
  rw [h1] at hl
  obtain ⟨m, hm, rfl⟩ := List.mem_map.1 hl
  obtain ⟨t, ht, rfl⟩ := List.mem_map.1 hs
  have hr := (chk_parts h).1 m hm t ht
  have e := h2 t
  generalize f t = u at *
  unfold bare at e
  obtain ⟨ux, uy, ur, uu, ug, up, uo⟩ := u
  obtain ⟨tx, ty, tr, tu, tg, tp, to⟩ := t
  simp only [Sd.mk.injEq] at e
  obtain ⟨_, _, rfl, rfl, rfl, rfl, rfl⟩ := e
  unfold rgd at hr ⊢
  simp only [Bool.and_eq_true, btw, decide_eq_true_eq] at hr ⊢
  exact ⟨hr.1, ⟨⟨⟨s1, s2⟩, ⟨s3, s4⟩⟩, hr.2.1.2⟩, hr.2.2⟩
theorem rot_two {rs : List (List Sd)} (h : chk rs = 0) : allR (rotT 2 rs) := by
  obtain ⟨_, h24, h0⟩ := chk_ne h
  have hR := chk_allR h
  have hpos : 0 < rs.flatten.length := by rw [flat_len]; omega
  obtain ⟨a1, _, _⟩ := lst_least hpos
  obtain ⟨l1, l2, l3, l4⟩ := lst_inR hR h0
  have e2 : qN 2 rs = rs.map (·.map fun s => qt (qt s)) := map_map2 qt qt rs
  have hq : (qN 2 rs).flatten = rs.flatten.map fun s => qt (qt s) := by rw [e2, flat_map]
  obtain ⟨b1, ⟨u, hu, bu⟩, ⟨v, hv, bv⟩⟩ := lst_least (l := (qN 2 rs).flatten) (by rw [hq, List.length_map]; exact hpos)
  rw [hq] at hu hv
  obtain ⟨u0, hu0, rfl⟩ := List.mem_map.1 hu
  obtain ⟨v0, hv0, rfl⟩ := List.mem_map.1 hv
  have bu' : (lstL (qN 2 rs).flatten).1 = 65536 - u0.x := bu
  have bv' : (lstL (qN 2 rs).flatten).2 = 65536 - v0.y := bv
  obtain ⟨lu, hlu, hu1⟩ := List.mem_flatten.1 hu0
  obtain ⟨lv, hlv, hv1⟩ := List.mem_flatten.1 hv0
  obtain ⟨u1, u2, _, _⟩ := hR lu hlu u0 hu1
  obtain ⟨_, _, v3, v4⟩ := hR lv hlv v0 hv1
  intro l hl s hs
  unfold rotT at hl
  obtain ⟨m, hm, rfl⟩ := List.mem_map.1 hl
  obtain ⟨t, ht, rfl⟩ := List.mem_map.1 hs
  rw [e2] at hm
  obtain ⟨k, hk, rfl⟩ := List.mem_map.1 hm
  obtain ⟨w, hw, rfl⟩ := List.mem_map.1 ht
  have hwf : w ∈ rs.flatten := List.mem_flatten.2 ⟨k, hk, hw⟩
  obtain ⟨w1, w2⟩ := a1 w hwf
  have hwq : qt (qt w) ∈ (qN 2 rs).flatten := by rw [hq]; exact List.mem_map.2 ⟨w, hwf, rfl⟩
  obtain ⟨c1, c2⟩ := b1 _ hwq
  have c1' : (lstL (qN 2 rs).flatten).1 ≤ 65536 - w.x := c1
  have c2' : (lstL (qN 2 rs).flatten).2 ≤ 65536 - w.y := c2
  show 0 ≤ 65536 - w.x + ((lstL rs.flatten).1 - (lstL (qN 2 rs).flatten).1) ∧ 65536 - w.x + ((lstL rs.flatten).1 - (lstL (qN 2 rs).flatten).1) ≤ 65536 ∧ 0 ≤ 65536 - w.y + ((lstL rs.flatten).2 - (lstL (qN 2 rs).flatten).2) ∧ 65536 - w.y + ((lstL rs.flatten).2 - (lstL (qN 2 rs).flatten).2) ≤ 65536
  omega
/-- What turning does. -/
abbrev turned (rs : List (List Sd)) (n : Int) : List (List Sd) := rotV rs (qn n).toNat
structure Turned (rs x : List (List Sd)) : Prop where
  ok : chk x = 0
  len : x.length = rs.length
  area : areaN x = areaN rs
  flat : x.flatten.length = rs.flatten.length
  cvx : ∀ n : Int, 0 ≤ n → n < tot rs → ∃ b : Bool, cvxV x n = .tuple #[.bool b, .int .i64 0] ∧ cvxV rs n = .tuple #[.bool b, .int .i64 0]
  same : ∀ i, i < rs.flatten.length → bare (sd x.flatten i) = bare (sd rs.flatten i)
theorem turned_eq {rs : List (List Sd)} (h : chk rs = 0) (n : Int) : turned rs n = rotT (n % 4).toNat rs := by
  rw [turned, rotV_eq (chk_allR h) (chk_ne h).2.2, qn_mod]
theorem turned_four {rs : List (List Sd)} (h : chk rs = 0) : turned rs 4 = rs := by rw [turned_eq h]; exact rotT_zero rs
theorem any_rgd_of {rs : List (List Sd)} (h : chk rs = 0) : rs.flatten.any (fun s => !rgd s) = false := any_rgd_mk (chk_parts h).1
theorem turned_even {rs : List (List Sd)} (h : chk rs = 0) {n : Int} (h2 : Int.tmod n 2 = 0) : (turned rs n).flatten.any (fun s => !rgd s) = false := by
  have h3 := Int.mul_tdiv_add_tmod n 2
  rw [turned_eq h]
  have : (n % 4).toNat = 0 ∨ (n % 4).toNat = 2 := by omega
  rcases this with e | e
  · rw [e, rotT_zero]; exact any_rgd_of h
  · rw [e]; exact rotT_rgd h 2 (rot_two h)
theorem turned_facts {rs : List (List Sd)} (h : chk rs = 0) {n : Int} (h3 : (turned rs n).flatten.any (fun s => !rgd s) = false) : Turned rs (turned rs n) := by
  rw [turned_eq h] at h3 ⊢
  generalize (n % 4).toNat = m at *
  obtain ⟨f, h1, h2⟩ := rotT_map m rs
  refine ⟨chk_rotT h h3, by rw [h1, List.length_map], areaN_rotT h h3, by rw [h1, flat_map, List.length_map], fun n a b => ?_, fun i hi => ?_⟩
  · obtain ⟨q, e, q1, q2⟩ := loc_some a b
    refine ⟨lefq rs q, ?_, ?_⟩
    · unfold cvxV
      rw [show loc (rotT m rs) n = some q by rw [h1, loc_map, e]]
      simp only
      rw [lefq_rotT h q1 q2]
    · unfold cvxV
      rw [e]
  · rw [h1, flat_map, sd_map hi]; exact h2 _
theorem turned_turned {rs : List (List Sd)} (h : chk rs = 0) {a b c : Int} (h3 : (turned rs a).flatten.any (fun s => !rgd s) = false) (hc : (a + b - c) % 4 = 0) : turned (turned rs a) b = turned rs c := by
  have h0 := (chk_ne h).2.2
  have hx := (turned_facts h h3).ok
  rw [turned_eq hx, turned_eq h, turned_eq h, rotT_add h0]
  exact rotT_eq rs (by omega)
theorem turned_back {rs : List (List Sd)} (h : chk rs = 0) {a b : Int} (h3 : (turned rs a).flatten.any (fun s => !rgd s) = false) (hc : (a + b) % 4 = 0) : turned (turned rs a) b = rs := by
  rw [turned_turned h h3 (c := 0) (by rw [Int.sub_zero]; exact hc), turned_eq h]
  exact rotT_zero rs
end Go.Proofs.YtnpfkmbcejgnjaaGreatDoor
