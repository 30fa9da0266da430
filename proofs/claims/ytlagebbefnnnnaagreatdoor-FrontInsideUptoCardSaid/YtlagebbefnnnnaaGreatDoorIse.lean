/-
  Lemmas that the theorem frontInside_upto_card needs (part 5 of 6).
-/
import Derived.Test.YtlagebbefnnnnaaGreatDoorIsd
import Derived.Lib.SlicesCompact
import Derived.Shelf.Lays
import Derived.Shelf.SlLaysN
import Derived.Shelf.Small.Bits
import Derived.Shelf.SlicesG.CompactS
namespace Go.Proofs.YtlagebbefnnnnaaGreatDoor
open Go Go.RowKit Go.Am
set_option maxRecDepth 10000
-- BOXES 3
theorem locF_at {rs : List (List Sd)} {n : Int} : ∀ k, k ≤ rs.length → ∀ q, locF rs n k = some q → q.1 < k ∧ q.2 < (rg rs q.1).length ∧ n = tot (rs.take q.1) + q.2
 | 0, _, q, h => by cases h
 | k + 1, hk, q, h => by
  have ht := tot_take_succ (show k < rs.length by omega)
  have h' : (match locF rs n k with | some q => some q | none => if (tot (rs.take k) : Int) ≤ n ∧ n < tot (rs.take (k + 1)) then some (k, (n - tot (rs.take k)).toNat) else none) = some q := h
  cases hq : locF rs n k with
  | some q2 =>
   rw [hq] at h'
   obtain rfl : q2 = q := by simpa using h'
   obtain ⟨h1, h2, h3⟩ := locF_at k (by omega) q2 hq
   exact ⟨by omega, h2, h3⟩
  | none =>
   rw [hq] at h'
   simp only at h'
   split at h'
   ·rename_i hc
    obtain rfl := Option.some.inj h'
    exact ⟨by simp only; omega, by simp only; omega, by simp only; omega⟩
   ·cases h'
theorem loc_at {rs : List (List Sd)} {n : Int} {q : Nat × Nat} (h : loc rs n = some q) : q.1 < rs.length ∧ q.2 < (rg rs q.1).length ∧ n = tot (rs.take q.1) + q.2 := locF_at rs.length (Nat.le_refl _) q h
theorem tot_lt {rs : List (List Sd)} (hne : ∀ l ∈ rs, l ≠ []) {j : Nat} : ∀ d, j + d + 1 ≤ rs.length → tot (rs.take j) < tot (rs.take (j + d + 1))
 | 0, h => by
  have h1 := tot_take_succ (show j < rs.length by omega)
  have h2 := List.length_pos_iff.2 (hne _ (List.mem_of_getElem? (rg_get (show j < rs.length by omega))))
  show tot (rs.take j) < tot (rs.take (j + 1))
  omega
 | d + 1, h => by
  have h1 := tot_lt hne (j := j) d (by omega)
  have h2 := tot_take_succ (show j + d + 1 < rs.length by omega)
  show tot (rs.take j) < tot (rs.take (j + d + 1 + 1))
  omega
def nbrV (rs : List (List Sd)) (n : Int) : Value := match loc rs n with
 | some (k, i) => .tuple #[.int .i64 ((tot (rs.take k) + prv (rg rs k).length i : Nat)), .int .i64 ((tot (rs.take k) + nxt (rg rs k).length i : Nat)), .int .i64 0]
 | none => .tuple #[.int .i64 0, .int .i64 0, .int .i64 2]
set_option maxHeartbeats 4000000 in
theorem neigh_ok (W : World) (p : Option Addr) (cap : Nat) (rs : List (List Sd)) (n : Int) (hn : rs.length < 4611686018427387904) (hR : RingsP W p rs) (hc : chk rs = 0) :
  CallsR Tryz.prog 16 #[planV p rs.length cap, .int .i64 n] W (fun _ : Unit => nbrV rs n) (fun _ => True) (fun _ => []) := by
 obtain ⟨hne, hT, _⟩ := chk_ne hc
 refine calls_enter (args := [planV p rs.length cap, .int .i64 n]) Tryz.func16 rfl rfl rfl ?_
 refine zA (zB ?_)
 (refine wl_box rfl rfl rfl rfl ?_; intro)
 refine wP rfl (wP rfl (wP rfl (wl_nil ?_)))
 rename_i b2
 refine zE (zA (zB (wB 0 rfl rfl rfl (wP rfl ?_))))
 cases hq : loc rs n with
 | none =>
  refine wl_call1 rfl rfl rfl rfl rfl rfl (by kernel_rfl) (fun W hp => (find_ok W p cap rs n hn (hR.hp hp) hc).cast (by rw [fndV, hq])) ?_
  refine wP rfl (wP rfl (wP rfl (wP rfl ?_)))
  (refine wl_allocZ Tryz.hZ rfl rfl rfl rfl ?_; intro)
  refine wP rfl (wS 1 rfl rfl rfl (wP rfl (wl_nil (zE (zA (zA (zB (wP rfl (wP rfl (wl_nil (zE (zR rfl (zA ?_)))))))))))))
  refine zB (wP rfl (wP rfl (wP rfl (wP rfl (wl_nil (zE (zO (zP ?_))))))))
  have e : nbrV rs n = .tuple #[.int .i64 0, .int .i64 0, .int .i64 2] := by unfold nbrV; rw [hq]
  exact ne_ret3 tH rfl (.tmp rfl) (.tmp rfl) (.tmp rfl) () e.symm trivial fun W _ => NewBx.nil _ _
 | some q =>
  obtain ⟨k, i⟩ := q
  obtain ⟨hk, hi, hn2⟩ := loc_at hq
  have hk : k < rs.length := hk
  have hi : i < (rg rs k).length := hi
  have hn2 : n = tot (rs.take k) + i := hn2
  have t1 := tot_take_succ hk
  have t2 := tot_take_le rs (k + 1)
  refine wl_call1 rfl rfl rfl rfl rfl rfl (by kernel_rfl) (fun W hp => (find_ok W p cap rs n hn (hR.hp hp) hc).cast (by rw [fndV, hq])) ?_
  refine wP rfl (wP rfl (wP rfl (wP rfl ?_)))
  (refine wl_allocZ Tryz.hZ rfl rfl rfl rfl ?_; intro)
  refine wP rfl (wS 1 rfl rfl rfl (wP rfl (wl_nil ?_)))
  rename_i b8
  refine zE (zA (zA (zB (wP rfl (wP rfl (wl_nil (zE (zS rfl (zI (zE (zA (zB (wP rfl ?_)))))))))))))
  refine wl_nil (zE (zA (zA (zB (wP rfl (wB 0 rfl rfl rfl (wP rfl (wP rfl (wl_nil (zE (zH ?_)))))))))))
  refine wc_loop (X := Nat) (fun j => [(1, .int .i64 n), (7, .int .i64 (tot (rs.take k) : Nat)), (10, .int .i64 (tot (rs.take j) : Nat)), (24, slv p rs.length cap), (25, .int .i64 (rs.length : Nat)), (26, .int .i64 (j : Nat))]) (fun _ => [⟨b2, 24, [slv p rs.length cap], true, none⟩])
   (fun j => j ≤ k) (fun j => rs.length - j) 0 (Nat.zero_le _) ⟨rfl, rfl, rfl, rfl, rfl, rfl, trivial⟩ [_] rfl ?_
  intro j hj
  refine zA (zB (wP rfl (wl_nil (zE (zA ?_)))))
  refine wc_cond rfl (fun h => ?_) (fun h => ?_)
  rotate_left
  ·have h' : decide ((j : Int) < (rs.length : Nat)) = false := h
   rw [decide_eq_false_iff_not] at h'
   omega
  have hjl : j < rs.length := by omega
  obtain ⟨b, off, rfl, hrow⟩ := hR.row hjl
  obtain ⟨q, cap2, hq1, hq2⟩ := hrow j hjl
  refine zI (zE (zA (zH (zA (zB ?_)))))
  refine wI rfl rfl (by omega) (by omega) ?_
  refine wl_load rfl rfl rfl rfl (fun W hp => RowAt.load 0 tH rfl ((fun W hp => hq1.hp hp) W hp) rfl) ?_
  refine wP rfl (wl_nil (zE (zA (zA (zB (wP rfl (wP rfl (wP rfl (wl_nil (zE ?_))))))))))
  refine wc_cond rfl (fun h2 => ?_) (fun h2 => ?_)
  ·have h' : (((tot (rs.take j) : Nat) : Int) == ((tot (rs.take k) : Nat) : Int)) = true := h2
   rw [beq_iff_eq] at h'
   have e : k = j := by
    rcases Nat.lt_or_ge j k with hlt | hge
    ·have := tot_lt hne (j := j) (k - j - 1) (by omega)
     rw [show j + (k - j - 1) + 1 = k by omega] at this
     omega
    ·omega
   subst e
   refine zA (zB (wP rfl (wP rfl (wP rfl (wl_nil (zE (zJ (zK (zM rfl (zK (zK (zL (zE ?_)))))))))))))
   refine zA ?_
   refine zT Tryz.mixed (by kernel_rfl) ?_
   have hL : ((rg rs k).length : Int) ≠ 0 := by omega
   refine qP rfl (qP rfl (qP rfl (qP rfl ?_)))
   refine wq_upd 43 (.int .i64 (i : Nat)) rfl (congrArg (Value.int .i64) (show w64 (n - (tot (rs.take k) : Nat)) = (i : Nat) by rw [w64_id (by omega) (by omega)]; omega)) ?_
   refine qP rfl (qP rfl (qP rfl ?_))
   refine wq_upd 46 (.int .i64 ((i + (rg rs k).length - 1 : Nat) : Int)) rfl (congrArg (Value.int .i64) (show w64 (w64 ((i : Nat) + ((rg rs k).length : Nat)) - 1) = ((i + (rg rs k).length - 1 : Nat) : Int) by rw [w64_id (x := (i : Nat) + ((rg rs k).length : Nat)) (by omega) (by omega), w64_id (by omega) (by omega)]; omega)) ?_
   refine qP rfl ?_
   refine wq_rem rfl rfl rfl rfl rfl hL ?_
   refine wq_upd 48 (.int .i64 (prv (rg rs k).length i : Nat)) rfl (congrArg (Value.int .i64) (show Int.tmod ((i + (rg rs k).length - 1 : Nat) : Int) ((rg rs k).length : Nat) = (prv (rg rs k).length i : Nat) from (Int.ofNat_tmod _ _).symm)) ?_
   refine qP rfl ?_
   have hp1 : prv (rg rs k).length i < (rg rs k).length := Nat.mod_lt _ (by omega)
   have hp2 : nxt (rg rs k).length i < (rg rs k).length := Nat.mod_lt _ (by omega)
   refine wq_upd 49 (.int .i64 ((tot (rs.take k) + prv (rg rs k).length i : Nat))) rfl (congrArg (Value.int .i64) (show w64 ((tot (rs.take k) : Nat) + (prv (rg rs k).length i : Nat)) = ((tot (rs.take k) + prv (rg rs k).length i : Nat)) by rw [w64_id (by omega) (by omega)]; omega)) ?_
   refine qP rfl (qP rfl (qP rfl (qP rfl ?_)))
   refine wq_upd 53 (.int .i64 (i : Nat)) rfl (congrArg (Value.int .i64) (show w64 (n - (tot (rs.take k) : Nat)) = (i : Nat) by rw [w64_id (by omega) (by omega)]; omega)) ?_
   refine qP rfl ?_
   refine wq_upd 54 (.int .i64 ((i + 1 : Nat) : Int)) rfl (congrArg (Value.int .i64) (show w64 ((i : Nat) + 1) = ((i + 1 : Nat) : Int) by rw [w64_id (by omega) (by omega)]; omega)) ?_
   refine qP rfl ?_
   refine wq_rem rfl rfl rfl rfl rfl hL ?_
   refine wq_upd 56 (.int .i64 (nxt (rg rs k).length i : Nat)) rfl (congrArg (Value.int .i64) (show Int.tmod ((i + 1 : Nat) : Int) ((rg rs k).length : Nat) = (nxt (rg rs k).length i : Nat) from (Int.ofNat_tmod _ _).symm)) ?_
   refine qP rfl ?_
   refine wq_upd 57 (.int .i64 ((tot (rs.take k) + nxt (rg rs k).length i : Nat))) rfl (congrArg (Value.int .i64) (show w64 ((tot (rs.take k) : Nat) + (nxt (rg rs k).length i : Nat)) = ((tot (rs.take k) + nxt (rg rs k).length i : Nat)) by rw [w64_id (by omega) (by omega)]; omega)) ?_
   refine qP rfl (qP rfl (qP rfl (wq_nil (wl_nil (zE (zO ?_))))))
   have e : nbrV rs n = .tuple #[.int .i64 ((tot (rs.take k) + prv (rg rs k).length i : Nat)), .int .i64 ((tot (rs.take k) + nxt (rg rs k).length i : Nat)), .int .i64 0] := by unfold nbrV; rw [hq]
   exact ne_ret3 tH rfl (.tmp rfl) (.tmp rfl) (.tmp rfl) () e.symm trivial fun W _ => NewBx.nil _ _
  ·have h' : (((tot (rs.take j) : Nat) : Int) == ((tot (rs.take k) : Nat) : Int)) = false := h2
   have hlt : j < k := by
    rcases Nat.lt_or_ge j k with hlt | hge
    ·exact hlt
    ·have e : j = k := by omega
     subst e; simp at h'
   refine zI (zE (zB ?_))
   iterate 5 refine wP rfl ?_
   refine wl_nil ?_
   have hs : w64 ((tot (rs.take j) : Nat) + ((rg rs j).length : Nat)) = (tot (rs.take (j + 1)) : Nat) := by
    have h1 := tot_take_succ hjl
    have h2 := tot_take_le rs (j + 1)
    rw [w64_id (by omega) (by omega)]; omega
   refine zN (zE (zB ?_))
   refine wl_upd 10 _ rfl (congrArg (Value.int .i64) hs) ?_
   refine wP rfl (wP rfl (wl_nil ?_))
   exact ne_loop (j + 1) hlt (by omega) ⟨rfl, rfl, rfl, rfl, rfl, congrArg (fun z => some (Value.int .i64 z)) (wrap_id (x := (j : Int) + 1) (by omega) (by omega)), trivial⟩ [] rfl
end Go.Proofs.YtlagebbefnnnnaaGreatDoor
namespace Go.Proofs.YtlagebbefnnnnaaGreatDoor
open Go Go.RowKit Go.Am
theorem locF_ex {rs : List (List Sd)} {n : Int} (h0 : 0 ≤ n) : ∀ k, k ≤ rs.length → n < tot (rs.take k) → ∃ q, locF rs n k = some q
 | 0, _, h => by simp [tot] at h; omega
 | k + 1, hk, h => by
  show ∃ q, (match locF rs n k with | some q => some q | none => if (tot (rs.take k) : Int) ≤ n ∧ n < tot (rs.take (k + 1)) then some (k, (n - tot (rs.take k)).toNat) else none) = some q
  cases hq : locF rs n k with
  | some q => exact ⟨q, rfl⟩
  | none =>
   by_cases hlt : n < tot (rs.take k)
   ·obtain ⟨q, h1⟩ := locF_ex h0 k (by omega) hlt
    rw [hq] at h1; cases h1
   ·simp only
    rw [if_pos ⟨by omega, h⟩]
    exact ⟨_, rfl⟩
theorem loc_of {rs : List (List Sd)} {r i : Nat} (hr : r < rs.length) (hi : i < (rg rs r).length) : loc rs ((tot (rs.take r) + i : Nat) : Int) = some (r, i) := by
 obtain ⟨q, hq⟩ := locF_ex (rs := rs) (n := ((tot (rs.take r) + i : Nat) : Int)) (by omega) rs.length (Nat.le_refl _) (by rw [List.take_length]; have := tot_at hr hi; omega)
 have hq' : loc rs ((tot (rs.take r) + i : Nat) : Int) = some q := hq
 obtain ⟨h1, h2, h3⟩ := loc_at hq'
 have e : tot (rs.take r) + i = tot (rs.take q.1) + q.2 := by omega
 have e1 := pl_at hr hi
 rw [e, pl_at h1 h2] at e1
 rw [hq', ← e1]
end Go.Proofs.YtlagebbefnnnnaaGreatDoor
namespace Go.Proofs.YtlagebbefnnnnaaGreatDoor
open Go Go.RowKit Go.Am
set_option maxRecDepth 10000
-- BOXES 1
def sgI (a : Int) : Int := if a < 0 then -1 else if a > 0 then 1 else 0
theorem sign_gives (a : Int) : Gives Tryz.prog 194 [.int .i64 a] (.int .i64 (sgI a)) := by
 intro W
 refine calls_enter Tryz.func194 rfl rfl rfl ?_
 refine zA (zB (wP rfl (wl_nil (zE (zA (zA (zB (wP rfl (wP rfl (wl_nil (zE ?_)))))))))))
 refine wc_cond rfl (fun h => ?_) (fun h => ?_)
 ·refine zA (zB (wP rfl (wl_nil (zE (zO (zP ?_))))))
  have h' : a < 0 := by simpa using h
  exact ne_ret1 tH rfl (.tmp rfl) () (by unfold sgI; rw [if_pos h']) trivial fun W _ => NewBx.nil _ _
 have h1 : ¬ a < 0 := by simpa using h
 refine zI (zE (zA (zA (zB (wP rfl (wP rfl (wl_nil (zE ?_))))))))
 refine wc_cond rfl (fun h2 => ?_) (fun h2 => ?_)
 ·refine zA (zB (wP rfl (wl_nil (zE (zO (zP ?_))))))
  have h' : a > 0 := by simpa using h2
  exact ne_ret1 tH rfl (.tmp rfl) () (by unfold sgI; rw [if_neg h1, if_pos h']) trivial fun W _ => NewBx.nil _ _
 have h3 : ¬ a > 0 := by simpa using h2
 refine zI (zE (zA (zB (wP rfl (wl_nil (zE (zO ?_)))))))
 exact ne_ret1 tH rfl (.tmp rfl) () (by unfold sgI; rw [if_neg h1, if_neg h3]) trivial fun W _ => NewBx.nil _ _
def outB (n a b : Int) : Bool := decide (n < a) || decide (n > b)
theorem outB_btw (n a b : Int) : outB n a b = !btw n a b := by
 unfold outB btw
 rw [Bool.eq_iff_iff]
 simp only [Bool.or_eq_true, Bool.not_eq_true', Bool.and_eq_false_iff, decide_eq_true_eq, decide_eq_false_iff_not]
 omega
theorem outside_gives (n a b : Int) : Gives Tryz.prog 117 [.int .i64 n, .int .i64 a, .int .i64 b] (.bool (outB n a b)) := by
 intro W
 refine calls_enter Tryz.func117 rfl rfl rfl ?_
 refine zA (zB (wP rfl (wl_nil (zE (zA (zB (wP rfl (wP rfl (wP rfl (wP rfl ?_))))))))))
 refine wl_part 10 rfl (fun h10 => ?_) (fun h10 => ?_)
 ·refine wl_skip rfl rfl ?_
  iterate 2 refine wl_skip rfl rfl ?_
  refine wP rfl (wP rfl (wl_nil (zE (zO ?_))))
  exact ne_ret1 tH rfl (.tmp rfl) () (by simp_all [outB] <;> (intros; omega)) trivial fun W _ => NewBx.nil _ _
 ·refine wP rfl (wP rfl (wP rfl (wP rfl (wP rfl (wl_nil (zE (zO ?_)))))))
  exact ne_ret1 tH rfl (.tmp rfl) () (by simp_all [outB] <;> (intros; omega)) trivial fun W _ => NewBx.nil _ _
theorem rangedR_gives (s : Sd) : Gives Tryz.prog 46 [s.val] (.bool (rgd s)) := by
 intro W
 refine calls_enter Tryz.func46 rfl rfl rfl ?_
 refine zA (zB ?_)
 (refine wl_box rfl rfl rfl rfl ?_; intro)
 refine wP rfl (wl_nil ?_)
 rename_i b1
 have no : (outB s.x 0 65536 || outB s.y 0 65536 || outB s.plate 0 65536 || outB s.over 0 65536) = true → rgd s = false := fun h => by
  simp only [outB_btw] at h
  unfold rgd
  rw [show (btw s.x 0 65536 && btw s.y 0 65536 && btw s.plate 0 65536 && btw s.over 0 65536) = false by
   rw [Bool.eq_false_iff]; intro h2; simp_all, Bool.and_false]
 have yes : outB s.x 0 65536 = false → outB s.y 0 65536 = false → outB s.plate 0 65536 = false → outB s.over 0 65536 = false → rgd s = (if s.gable then s.rise == 0 && s.run == 0 else btw s.rise 1 48 && btw s.run 1 48) := fun h1 h2 h3 h4 => by
  rw [outB_btw, Bool.not_eq_false'] at h1 h2 h3 h4
  unfold rgd
  rw [h1, h2, h3, h4]; simp
 refine zE (zA (zA (zB (wP rfl (wB 0 rfl rfl rfl ?_)))))
 refine wl_call1 rfl rfl rfl rfl rfl rfl (by kernel_rfl) (fun W _ => (outside_gives ..)) ?_
 refine wP rfl ?_
 refine wl_part 6 rfl (fun h6 => ?_) (fun h6 => ?_)
 ·refine wl_skip rfl rfl ?_
  iterate 2 refine wl_skip rfl rfl ?_
  refine wP rfl (wP rfl ?_)
  iterate 3 refine wl_skip rfl rfl ?_
  refine wP rfl (wP rfl ?_)
  iterate 3 refine wl_skip rfl rfl ?_
  refine wP rfl (wl_nil (zE (zR rfl (zA (zB (wP rfl (wl_nil (zE (zO (zP ?_))))))))))
  exact ne_ret1 tH rfl (.tmp rfl) () (by rw [no (by simp_all)]) trivial fun W _ => NewBx.nil _ _
 ·refine wP rfl (wB 0 rfl rfl rfl ?_)
  refine wl_call1 rfl rfl rfl rfl rfl rfl (by kernel_rfl) (fun W _ => (outside_gives ..)) ?_
  refine wP rfl (wP rfl ?_)
  refine wl_part 11 rfl (fun h11 => ?_) (fun h11 => ?_)
  ·refine wl_skip rfl rfl ?_
   iterate 2 refine wl_skip rfl rfl ?_
   refine wP rfl (wP rfl ?_)
   iterate 3 refine wl_skip rfl rfl ?_
   refine wP rfl (wl_nil (zE (zR rfl (zA (zB (wP rfl (wl_nil (zE (zO (zP ?_))))))))))
   exact ne_ret1 tH rfl (.tmp rfl) () (by rw [no (by simp_all)]) trivial fun W _ => NewBx.nil _ _
  ·refine wP rfl (wB 0 rfl rfl rfl ?_)
   refine wl_call1 rfl rfl rfl rfl rfl rfl (by kernel_rfl) (fun W _ => (outside_gives ..)) ?_
   refine wP rfl (wP rfl ?_)
   refine wl_part 16 rfl (fun h16 => ?_) (fun h16 => ?_)
   ·refine wl_skip rfl rfl ?_
    iterate 2 refine wl_skip rfl rfl ?_
    refine wP rfl (wl_nil (zE (zR rfl (zA (zB (wP rfl (wl_nil (zE (zO (zP ?_))))))))))
    exact ne_ret1 tH rfl (.tmp rfl) () (by rw [no (by simp_all)]) trivial fun W _ => NewBx.nil _ _
   ·refine wP rfl (wB 0 rfl rfl rfl ?_)
    refine wl_call1 rfl rfl rfl rfl rfl rfl (by kernel_rfl) (fun W _ => (outside_gives ..)) ?_
    refine wP rfl (wl_nil (zE ?_))
    refine wc_cond rfl (fun h => ?_) (fun h => ?_)
    ·refine zA (zB (wP rfl (wl_nil (zE (zO (zP ?_))))))
     exact ne_ret1 tH rfl (.tmp rfl) () (by rw [no (by simp_all)]) trivial fun W _ => NewBx.nil _ _
    refine zI (zE (zA (zA (zB ?_))))
    have e := yes (by simp_all) (by simp_all) (by simp_all) (by simp_all)
    refine wP rfl (wB 0 rfl rfl rfl (wl_nil (zE ?_)))
    refine wc_cond rfl (fun hg => ?_) (fun hg => ?_)
    ·refine zA (zB (wP rfl (wB 0 rfl rfl rfl (wP rfl (wP rfl ?_)))))
     refine wl_part 26 rfl (fun h26 => ?_) (fun h26 => ?_)
     ·refine wP rfl (wB 0 rfl rfl rfl (wP rfl (wP rfl (wP rfl (wl_nil (zE (zO (zP ?_))))))))
      exact ne_ret1 tH rfl (.tmp rfl) () (by rw [e, hg]; simp_all) trivial fun W _ => NewBx.nil _ _
     ·refine wl_skip rfl rfl ?_
      iterate 2 refine wl_skip rfl rfl ?_
      refine wP rfl (wP rfl (wl_nil (zE (zO (zP ?_)))))
      exact ne_ret1 tH rfl (.tmp rfl) () (by rw [e, hg]; simp_all) trivial fun W _ => NewBx.nil _ _
    ·refine zI (zE (zA (zB (wP rfl (wB 0 rfl rfl rfl ?_)))))
     refine wl_call1 rfl rfl rfl rfl rfl rfl (by kernel_rfl) (fun W _ => (outside_gives ..)) ?_
     refine wP rfl (wP rfl ?_)
     refine wl_part 35 rfl (fun h35 => ?_) (fun h35 => ?_)
     ·refine wP rfl (wB 0 rfl rfl rfl ?_)
      refine wl_call1 rfl rfl rfl rfl rfl rfl (by kernel_rfl) (fun W _ => (outside_gives ..)) ?_
      refine wP rfl (wP rfl (wP rfl (wl_nil (zE (zO ?_)))))
      exact ne_ret1 tH rfl (.tmp rfl) () (by rw [e, hg]; simp_all [outB_btw]) trivial fun W _ => NewBx.nil _ _
     ·refine wl_skip rfl rfl ?_
      iterate 3 refine wl_skip rfl rfl ?_
      refine wP rfl (wP rfl (wl_nil (zE (zO ?_))))
      exact ne_ret1 tH rfl (.tmp rfl) () (by rw [e, hg]; simp_all [outB_btw]) trivial fun W _ => NewBx.nil _ _
theorem end_gives (W : World) (p : Option Addr) (cap : Nat) (l : List Sd) (i : Nat) (hn : l.length < 4611686018427387904) (hR : RingP W p l) (hi : i < l.length) :
  CallsR Tryz.prog 193 #[slv p l.length cap, .int .i64 (i : Nat)] W (fun _ : Unit => .tuple #[.int .i64 (sd l (nxt l.length i)).x, .int .i64 (sd l (nxt l.length i)).y]) (fun _ => True) (fun _ => []) := by
 obtain ⟨b, off, rfl, hrow⟩ := hR.row hi
 have hi2 := nxt_lt hi
 refine calls_enter (args := [slv (some ⟨b, off, none⟩) l.length cap, .int .i64 (i : Nat)]) Tryz.func193 rfl rfl rfl ?_
 refine zA (zB (wP rfl (wP rfl (wl_nil (zE (zA (zB (wP rfl (wP rfl ?_)))))))))
 refine wl_upd 8 (.int .i64 ((i + 1 : Nat) : Int)) rfl (congrArg (Value.int .i64) (show w64 ((i : Nat) + 1) = ((i + 1 : Nat) : Int) by rw [w64_id (by omega) (by omega)]; omega)) ?_
 refine wP rfl (wP rfl ?_)
 refine wl_rem rfl rfl rfl rfl rfl (by omega) ?_
 refine wl_upd 11 (.int .i64 (nxt l.length i : Nat)) rfl (congrArg (Value.int .i64) (show Int.tmod ((i + 1 : Nat) : Int) (l.length : Nat) = (nxt l.length i : Nat) from (Int.ofNat_tmod _ _).symm)) ?_
 refine wP rfl (wl_nil (zE (zA ?_)))
 refine zT Tryz.mixed (by kernel_rfl) ?_
 refine qP rfl (qP rfl ?_)
 refine qI rfl rfl (by omega) (by omega) ?_
 refine qP rfl ?_
 refine wq_load rfl rfl rfl rfl (fun W hp => RowAt.load 0 tH rfl ((fun W hp => (hrow (nxt l.length i) hi2).hp hp) W hp) rfl) ?_
 refine qP rfl (qP rfl ?_)
 refine qI rfl rfl (by omega) (by omega) ?_
 refine qP rfl ?_
 refine wq_load rfl rfl rfl rfl (fun W hp => RowAt.load 1 tH rfl ((fun W hp => (hrow (nxt l.length i) hi2).hp hp) W hp) rfl) ?_
 refine qP rfl (qP rfl (wq_nil (wl_nil (zE (zO ?_)))))
 exact ne_ret2 tH rfl (.tmp rfl) (.tmp rfl) () rfl trivial fun W _ => NewBx.nil _ _
def dirX (l : List Sd) (i : Nat) : Int := sgI (w64 ((sd l (nxt l.length i)).x - (sd l i).x))
def dirY (l : List Sd) (i : Nat) : Int := sgI (w64 ((sd l (nxt l.length i)).y - (sd l i).y))
theorem direction_gives (W : World) (p : Option Addr) (cap : Nat) (l : List Sd) (i : Nat) (hn : l.length < 4611686018427387904) (hR : RingP W p l) (hi : i < l.length) :
  CallsR Tryz.prog 118 #[slv p l.length cap, .int .i64 (i : Nat)] W (fun _ : Unit => .tuple #[.int .i64 (dirX l i), .int .i64 (dirY l i)]) (fun _ => True) (fun _ => []) := by
 obtain ⟨b, off, rfl, hrow⟩ := hR.row hi
 refine calls_enter (args := [slv (some ⟨b, off, none⟩) l.length cap, .int .i64 (i : Nat)]) Tryz.func118 rfl rfl rfl ?_
 refine zA (zB (wP rfl (wP rfl (wl_nil (zE (zA (zB (wP rfl (wP rfl ?_)))))))))
 refine wl_call1 rfl rfl rfl rfl rfl rfl (by kernel_rfl) (fun W hp => end_gives W _ cap l i hn (hR.hp hp) hi) ?_
 iterate 5 refine wP rfl ?_
 refine wl_nil (zE (zA ?_))
 refine zT Tryz.mixed (by kernel_rfl) ?_
 refine qP rfl (qP rfl (qP rfl ?_))
 refine qI rfl rfl (by omega) (by omega) ?_
 refine qP rfl ?_
 refine wq_load rfl rfl rfl rfl (fun W hp => RowAt.load 0 tH rfl ((fun W hp => (hrow i hi).hp hp) W hp) rfl) ?_
 refine qP rfl ?_
 refine wq_call1 rfl rfl rfl rfl rfl rfl (by kernel_rfl) (fun W _ => (sign_gives ..)) ?_
 refine qP rfl (qP rfl (qP rfl ?_))
 refine qI rfl rfl (by omega) (by omega) ?_
 refine qP rfl ?_
 refine wq_load rfl rfl rfl rfl (fun W hp => RowAt.load 1 tH rfl ((fun W hp => (hrow i hi).hp hp) W hp) rfl) ?_
 refine qP rfl ?_
 refine wq_call1 rfl rfl rfl rfl rfl rfl (by kernel_rfl) (fun W _ => (sign_gives ..)) ?_
 refine qP rfl (qP rfl (wq_nil (wl_nil (zE (zO ?_)))))
 exact ne_ret2 tH rfl (.tmp rfl) (.tmp rfl) () rfl trivial fun W _ => NewBx.nil _ _
def trnR (l : List Sd) (i : Nat) : Int := w64 (w64 (dirX l (prv l.length i) * dirY l i) - w64 (dirY l (prv l.length i) * dirX l i))
theorem turn_gives (W : World) (p : Option Addr) (cap : Nat) (l : List Sd) (i : Nat) (hn : l.length < 4611686018427387904) (hR : RingP W p l) (hi : i < l.length) :
  CallsR Tryz.prog 119 #[slv p l.length cap, .int .i64 (i : Nat)] W (fun _ : Unit => .int .i64 (trnR l i)) (fun _ => True) (fun _ => []) := by
 have hi2 := prv_lt hi
 refine calls_enter (args := [slv p l.length cap, .int .i64 (i : Nat)]) Tryz.func119 rfl rfl rfl ?_
 refine zA (zB (wP rfl (wl_nil (zE (zA (zB ?_))))))
 iterate 6 refine wP rfl ?_
 refine wl_upd 15 (.int .i64 ((i + l.length - 1 : Nat) : Int)) rfl (congrArg (Value.int .i64) (show w64 (w64 ((i : Nat) + (l.length : Nat)) - 1) = ((i + l.length - 1 : Nat) : Int) by rw [w64_id (x := (i : Nat) + (l.length : Nat)) (by omega) (by omega), w64_id (by omega) (by omega)]; omega)) ?_
 refine wP rfl (wP rfl ?_)
 refine wl_rem rfl rfl rfl rfl rfl (by omega) ?_
 refine wl_upd 18 (.int .i64 (prv l.length i : Nat)) rfl (congrArg (Value.int .i64) (show Int.tmod ((i + l.length - 1 : Nat) : Int) (l.length : Nat) = (prv l.length i : Nat) from (Int.ofNat_tmod _ _).symm)) ?_
 refine wl_call1 rfl rfl rfl rfl rfl rfl (by kernel_rfl) (fun W hp => direction_gives W _ cap l (prv l.length i) hn (hR.hp hp) hi2) ?_
 iterate 5 refine wP rfl ?_
 refine wl_nil (zE (zA (zB (wP rfl (wP rfl ?_)))))
 refine wl_call1 rfl rfl rfl rfl rfl rfl (by kernel_rfl) (fun W hp => direction_gives W _ cap l i hn (hR.hp hp) hi) ?_
 iterate 5 refine wP rfl ?_
 refine wl_nil (zE (zA (zB ?_)))
 iterate 8 refine wP rfl ?_
 refine wl_nil (zE (zO ?_))
 exact ne_ret1 tH rfl (.tmp rfl) () rfl trivial fun W _ => NewBx.nil _ _
def twR (l : List Sd) : Nat → Int
 | 0 => 0
 | k + 1 => w64 (w64 (twR l k + w64 ((sd l k).x * (sd l (nxt l.length k)).y)) - w64 ((sd l (nxt l.length k)).x * (sd l k).y))
theorem twice_gives (W : World) (p : Option Addr) (cap : Nat) (l : List Sd) (hn : l.length < 4611686018427387904) (hR : RingP W p l) :
  CallsR Tryz.prog 121 #[slv p l.length cap] W (fun _ : Unit => .int .i64 (twR l l.length)) (fun _ => True) (fun _ => []) := by
 refine calls_enter (args := [slv p l.length cap]) Tryz.func121 rfl rfl rfl ?_
 refine zA (zB (wP rfl (wl_nil (zE (zA (zB (wP rfl (wl_nil (zE (zA (zA (zB (wP rfl ?_)))))))))))))
 refine wl_nil (zE (zH ?_))
 refine wc_loop (X := Nat) (fun k => [(0, slv p l.length cap), (3, .int .i64 (twR l k)), (4, .int .i64 (k : Nat))]) (fun _ => []) (fun k => k ≤ l.length) (fun k => l.length - k) 0 (Nat.zero_le _) ⟨rfl, rfl, rfl, trivial⟩ [] rfl ?_
 intro k hk
 refine zA (zA (zB (wP rfl (wP rfl (wP rfl (wP rfl (wl_nil (zE ?_))))))))
 refine wc_cond rfl (fun h => ?_) (fun h => ?_)
 rotate_left
 ·have e : k = l.length := by simp at h; omega
  subst e
  refine zJ (zK (zK (zL (zE (zA (zB (wP rfl (wP rfl (wl_nil (zE (zO ?_)))))))))))
  exact ne_ret1 tH rfl (.tmp rfl) () rfl trivial fun W _ => NewBx.nil _ _
 have hk : k < l.length := by simp at h; omega
 clear h
 obtain ⟨b, off, rfl, hrow⟩ := hR.row hk
 refine zI (zE (zA (zH (zA (zB (wP rfl (wP rfl ?_)))))))
 refine wl_call1 rfl rfl rfl rfl rfl rfl (by kernel_rfl) (fun W hp => end_gives W _ cap l k hn (hR.hp hp) hk) ?_
 iterate 5 refine wP rfl ?_
 refine wl_nil (zE ?_)
 refine zT Tryz.mixed (by kernel_rfl) ?_
 refine qP rfl (qP rfl (qP rfl ?_))
 refine qI rfl rfl (by omega) (by omega) ?_
 refine qP rfl ?_
 refine wq_load rfl rfl rfl rfl (fun W hp => RowAt.load 0 tH rfl ((fun W hp => (hrow k hk).hp hp) W hp) rfl) ?_
 iterate 6 refine qP rfl ?_
 refine qI rfl rfl (by omega) (by omega) ?_
 refine qP rfl ?_
 refine wq_load rfl rfl rfl rfl (fun W hp => RowAt.load 1 tH rfl ((fun W hp => (hrow k hk).hp hp) W hp) rfl) ?_
 refine qP rfl (qP rfl (qP rfl (wq_nil (wl_nil (zN (zE (zB (wP rfl (wP rfl (wP rfl (wl_nil ?_)))))))))))
 exact ne_loop (k + 1) hk (by omega) ⟨rfl, rfl, congrArg (fun z => some (Value.int .i64 z)) (wrap_id (x := (k : Int) + 1) (by omega) (by omega)), trivial⟩ [] rfl
-- BOXES 1
def axR (l : List Sd) (i : Nat) : Bool := w64 (w64 (dirX l i * dirX l i) + w64 (dirY l i * dirY l i)) == 1
def okR (l : List Sd) (i : Nat) : Bool := axR l i && !(trnR l i == 0)
def shpR (l : List Sd) : Bool := (List.range l.length).all (okR l) && decide (l.length ≥ 4)
theorem shpR_false {l : List Sd} {k : Nat} (hk : k < l.length) (h : okR l k = false) : shpR l = false := by
 unfold shpR
 rw [all_range_false hk h]; rfl
set_option maxHeartbeats 4000000 in
theorem shapedR_gives (W : World) (p : Option Addr) (cap : Nat) (l : List Sd) (hn : l.length < 4611686018427387904) (hR : RingP W p l) :
  CallsR Tryz.prog 47 #[slv p l.length cap] W (fun _ : Unit => .bool (shpR l)) (fun _ => True) (fun _ => []) := by
 refine calls_enter (args := [slv p l.length cap]) Tryz.func47 rfl rfl rfl ?_
 refine zA (zB (wP rfl (wl_nil (zE (zA (zA (zB (wP rfl (wl_nil (zE (zH ?_)))))))))))
 refine wc_loop (X := Nat) (fun k => [(0, slv p l.length cap), (3, .int .i64 (k : Nat))]) (fun _ => []) (fun k => k ≤ l.length ∧ ∀ i, i < k → okR l i = true) (fun k => l.length - k) 0 ⟨Nat.zero_le _, fun i hi => absurd hi (Nat.not_lt_zero _)⟩ ⟨rfl, rfl, trivial⟩ [] rfl ?_
 rintro k ⟨hk, hok⟩
 refine zA (zA (zB (wP rfl (wP rfl (wP rfl (wP rfl (wl_nil (zE ?_))))))))
 refine wc_cond rfl (fun h => ?_) (fun h => ?_)
 rotate_left
 ·have e : k = l.length := by simp at h; omega
  subst e
  refine zJ (zK (zK (zL (zE (zA (zB (wP rfl (wP rfl (wP rfl (wP rfl (wl_nil (zE (zO ?_)))))))))))))
  have hall : (List.range l.length).all (okR l) = true := List.all_eq_true.2 fun i hi => hok i (List.mem_range.1 hi)
  have e : shpR l = decide ((l.length : Int) ≥ 4) := by
   unfold shpR
   rw [hall, Bool.true_and]
   by_cases h4 : l.length ≥ 4
   ·rw [decide_eq_true h4, decide_eq_true (by omega)]
   ·rw [decide_eq_false h4, decide_eq_false (by omega)]
  exact ne_ret1 tH rfl (.tmp rfl) () (by rw [e]) trivial fun W _ => NewBx.nil _ _
 have hk : k < l.length := by simp at h; omega
 clear h
 refine zI (zE (zA (zH (zA (zB (wP rfl (wP rfl ?_)))))))
 refine wl_call1 rfl rfl rfl rfl rfl rfl (by kernel_rfl) (fun W hp => direction_gives W _ cap l k hn (hR.hp hp) hk) ?_
 iterate 5 refine wP rfl ?_
 refine wl_nil (zE (zA (zB ?_)))
 iterate 9 refine wP rfl ?_
 refine wl_part 26 rfl (fun h26 => ?_) (fun h26 => ?_)
 ·refine wl_skip rfl rfl ?_
  iterate 3 refine wl_skip rfl rfl ?_
  refine wP rfl (wl_nil (zE (zR rfl (zA (zB (wP rfl (wl_nil (zE (zO (zQ (zP (zP (zQ ?_)))))))))))))
  refine zP ?_
  have h' : (w64 (w64 (dirX l k * dirX l k) + w64 (dirY l k * dirY l k)) != 1) = true := h26
  have hf : okR l k = false := by unfold okR axR; rw [bne_iff_ne] at h'; rw [beq_eq_false_iff_ne.2 h']; rfl
  exact ne_ret1 tH rfl (.tmp rfl) () (by rw [shpR_false hk hf]) trivial fun W _ => NewBx.nil _ _
 ·refine wP rfl (wP rfl ?_)
  refine wl_call1 rfl rfl rfl rfl rfl rfl (by kernel_rfl) (fun W hp => turn_gives W _ cap l k hn (hR.hp hp) hk) ?_
  refine wP rfl (wP rfl (wl_nil ?_))
  have h' : (w64 (w64 (dirX l k * dirX l k) + w64 (dirY l k * dirY l k)) != 1) = false := h26
  have ha : axR l k = true := by unfold axR; rw [bne_eq_false_iff_eq] at h'; rw [beq_iff_eq]; exact h'
  refine zE ?_
  refine wc_cond rfl (fun h => ?_) (fun h => ?_)
  ·refine zA (zB (wP rfl (wl_nil (zE (zO (zQ (zP (zP (zQ (zP ?_))))))))))
   have hf : okR l k = false := by unfold okR; rw [show (trnR l k == 0) = true from h, Bool.not_true, Bool.and_false]
   exact ne_ret1 tH rfl (.tmp rfl) () (by rw [shpR_false hk hf]) trivial fun W _ => NewBx.nil _ _
  ·have hf : okR l k = true := by unfold okR; rw [ha, show (trnR l k == 0) = false from h]; rfl
   refine zI (zN (zE (zB (wP rfl (wP rfl (wP rfl (wl_nil ?_)))))))
   refine ne_loop (k + 1) ⟨hk, fun i hi => ?_⟩ (by omega) ⟨rfl, congrArg (fun z => some (Value.int .i64 z)) (wrap_id (x := (k : Int) + 1) (by omega) (by omega)), trivial⟩ [] rfl
   by_cases e : i = k
   ·subst e; exact hf
   ·exact hok i (by omega)
set_option maxHeartbeats 4000000 in
theorem touch_gives (W : World) (p q : Option Addr) (cap caq : Nat) (l m : List Sd) (i k : Nat) (hn : l.length < 4611686018427387904) (hm : m.length < 4611686018427387904) (hR : RingP W p l) (hS : RingP W q m) (hi : i < l.length) (hk : k < m.length) :
  CallsR Tryz.prog 120 #[slv p l.length cap, .int .i64 (i : Nat), slv q m.length caq, .int .i64 (k : Nat)] W (fun _ : Unit => .bool (meetB (sd l i) (sd l (nxt l.length i)) (sd m k) (sd m (nxt m.length k)))) (fun _ => True) (fun _ => []) := by
 obtain ⟨b, off, rfl, hrow⟩ := hR.row hi
 obtain ⟨b', off', rfl, hrow'⟩ := hS.row hk
 refine calls_enter (args := [slv (some ⟨b, off, none⟩) l.length cap, .int .i64 (i : Nat), slv (some ⟨b', off', none⟩) m.length caq, .int .i64 (k : Nat)]) Tryz.func120 rfl rfl rfl ?_
 refine zA (zB (wP rfl (wl_nil (zE (zA (zB (wP rfl (wP rfl ?_))))))))
 refine wl_call1 rfl rfl rfl rfl rfl rfl (by kernel_rfl) (fun W hp => end_gives W _ cap l i hn (hR.hp hp) hi) ?_
 iterate 5 refine wP rfl ?_
 refine wl_nil (zE (zA (zB (wP rfl (wP rfl ?_)))))
 refine wl_call1 rfl rfl rfl rfl rfl rfl (by kernel_rfl) (fun W hp => end_gives W _ caq m k hm (hS.hp hp) hk) ?_
 iterate 5 refine wP rfl ?_
 refine wl_nil ?_
 obtain ⟨B1, e1⟩ : ∃ b, decide (lox (sd l i) (sd l (nxt l.length i)) ≤ hix (sd m k) (sd m (nxt m.length k))) = b := ⟨_, rfl⟩
 obtain ⟨B2, e2⟩ : ∃ b, decide (lox (sd m k) (sd m (nxt m.length k)) ≤ hix (sd l i) (sd l (nxt l.length i))) = b := ⟨_, rfl⟩
 obtain ⟨B3, e3⟩ : ∃ b, decide (loy (sd l i) (sd l (nxt l.length i)) ≤ hiy (sd m k) (sd m (nxt m.length k))) = b := ⟨_, rfl⟩
 obtain ⟨B4, e4⟩ : ∃ b, decide (loy (sd m k) (sd m (nxt m.length k)) ≤ hiy (sd l i) (sd l (nxt l.length i))) = b := ⟨_, rfl⟩
 have hM : meetB (sd l i) (sd l (nxt l.length i)) (sd m k) (sd m (nxt m.length k)) = (B1 && B2 && B3 && B4) := by unfold meetB; rw [e1, e2, e3, e4]
 refine zE (zA ?_)
 refine zT Tryz.mixed (by kernel_rfl) ?_
 refine qP rfl (qP rfl ?_)
 refine qI rfl rfl (by omega) (by omega) ?_
 refine qP rfl ?_
 refine wq_load rfl rfl rfl rfl (fun W hp => RowAt.load 0 tH rfl ((fun W hp => (hrow i hi).hp hp) W hp) rfl) ?_
 refine qP rfl (qP rfl (qP rfl (qP rfl ?_)))
 refine qI rfl rfl (by omega) (by omega) ?_
 refine qP rfl ?_
 refine wq_load rfl rfl rfl rfl (fun W hp => RowAt.load 0 tH rfl ((fun W hp => (hrow' k hk).hp hp) W hp) rfl) ?_
 refine qP rfl (qP rfl (qP rfl (qP rfl ?_)))
 refine wq_part 40 rfl (fun h40 => ?_) (fun h40 => ?_)
 ·refine qP rfl (qP rfl ?_)
  refine qI rfl rfl (by omega) (by omega) ?_
  refine qP rfl ?_
  refine wq_load rfl rfl rfl rfl (fun W hp => RowAt.load 0 tH rfl ((fun W hp => (hrow' k hk).hp hp) W hp) rfl) ?_
  refine qP rfl (qP rfl (qP rfl (qP rfl ?_)))
  refine qI rfl rfl (by omega) (by omega) ?_
  refine qP rfl ?_
  refine wq_load rfl rfl rfl rfl (fun W hp => RowAt.load 0 tH rfl ((fun W hp => (hrow i hi).hp hp) W hp) rfl) ?_
  iterate 5 refine qP rfl ?_
  refine wq_part 57 rfl (fun h57 => ?_) (fun h57 => ?_)
  ·refine qP rfl (qP rfl ?_)
   refine qI rfl rfl (by omega) (by omega) ?_
   refine qP rfl ?_
   refine wq_load rfl rfl rfl rfl (fun W hp => RowAt.load 1 tH rfl ((fun W hp => (hrow i hi).hp hp) W hp) rfl) ?_
   refine qP rfl (qP rfl (qP rfl (qP rfl ?_)))
   refine qI rfl rfl (by omega) (by omega) ?_
   refine qP rfl ?_
   refine wq_load rfl rfl rfl rfl (fun W hp => RowAt.load 1 tH rfl ((fun W hp => (hrow' k hk).hp hp) W hp) rfl) ?_
   iterate 5 refine qP rfl ?_
   refine wq_part 74 rfl (fun h74 => ?_) (fun h74 => ?_)
   ·refine qP rfl (qP rfl ?_)
    refine qI rfl rfl (by omega) (by omega) ?_
    refine qP rfl ?_
    refine wq_load rfl rfl rfl rfl (fun W hp => RowAt.load 1 tH rfl ((fun W hp => (hrow' k hk).hp hp) W hp) rfl) ?_
    refine qP rfl (qP rfl (qP rfl (qP rfl ?_)))
    refine qI rfl rfl (by omega) (by omega) ?_
    refine qP rfl ?_
    refine wq_load rfl rfl rfl rfl (fun W hp => RowAt.load 1 tH rfl ((fun W hp => (hrow i hi).hp hp) W hp) rfl) ?_
    iterate 5 refine qP rfl ?_
    refine wq_nil (wl_nil (zE (zO ?_)))
    exact ne_ret1 tH rfl (.tmp rfl) () (by rw [hM, show B1 = true from e1.symm.trans h40, show B2 = true from e2.symm.trans h57, show B3 = true from e3.symm.trans h74]; exact congrArg Value.bool e4) trivial fun W _ => NewBx.nil _ _
   ·refine wq_skip rfl rfl ?_
    iterate 14 refine wq_skip rfl rfl ?_
    refine qP rfl (qP rfl (wq_nil (wl_nil (zE (zO ?_)))))
    have e : (B1 && B2 && B3 && B4) = false := by first | (rw [show B1 = false from e1.symm.trans h40]; rfl) | (rw [show B2 = false from e2.symm.trans h57]; cases B1 <;> rfl) | (rw [show B3 = false from e3.symm.trans h74]; cases B1 <;> cases B2 <;> rfl)
    exact ne_ret1 tH rfl (.tmp rfl) () (by rw [hM, e]) trivial fun W _ => NewBx.nil _ _
  ·refine wq_skip rfl rfl ?_
   iterate 14 refine wq_skip rfl rfl ?_
   refine qP rfl (qP rfl ?_)
   iterate 15 refine wq_skip rfl rfl ?_
   refine qP rfl (qP rfl (wq_nil (wl_nil (zE (zO ?_)))))
   have e : (B1 && B2 && B3 && B4) = false := by first | (rw [show B1 = false from e1.symm.trans h40]; rfl) | (rw [show B2 = false from e2.symm.trans h57]; cases B1 <;> rfl) | (rw [show B3 = false from e3.symm.trans h74]; cases B1 <;> cases B2 <;> rfl)
   exact ne_ret1 tH rfl (.tmp rfl) () (by rw [hM, e]) trivial fun W _ => NewBx.nil _ _
 ·refine wq_skip rfl rfl ?_
  iterate 14 refine wq_skip rfl rfl ?_
  refine qP rfl (qP rfl ?_)
  iterate 15 refine wq_skip rfl rfl ?_
  refine qP rfl (qP rfl ?_)
  iterate 15 refine wq_skip rfl rfl ?_
  refine qP rfl (qP rfl (wq_nil (wl_nil (zE (zO ?_)))))
  have e : (B1 && B2 && B3 && B4) = false := by first | (rw [show B1 = false from e1.symm.trans h40]; rfl) | (rw [show B2 = false from e2.symm.trans h57]; cases B1 <;> rfl) | (rw [show B3 = false from e3.symm.trans h74]; cases B1 <;> cases B2 <;> rfl)
  exact ne_ret1 tH rfl (.tmp rfl) () (by rw [hM, e]) trivial fun W _ => NewBx.nil _ _
def passR (t u : Sd) (px py : Int) : Bool := (t.x == u.x) && decide (u.x > px) && decide (loy t u ≤ py) && decide (py < hiy t u)
def insR (l : List Sd) (px py : Int) : Nat → Bool
 | 0 => false
 | k + 1 => if passR (sd l k) (sd l (nxt l.length k)) px py = true then !insR l px py k else insR l px py k
set_option maxHeartbeats 4000000 in
theorem insideR_gives (W : World) (p : Option Addr) (cap : Nat) (l : List Sd) (px py : Int) (hn : l.length < 4611686018427387904) (hR : RingP W p l) :
  CallsR Tryz.prog 122 #[slv p l.length cap, .int .i64 px, .int .i64 py] W (fun _ : Unit => .bool (insR l px py l.length)) (fun _ => True) (fun _ => []) := by
 refine calls_enter (args := [slv p l.length cap, .int .i64 px, .int .i64 py]) Tryz.func122 rfl rfl rfl ?_
 refine zA (zB (wP rfl (wl_nil (zE (zA (zB (wP rfl (wl_nil (zE (zA (zA (zB (wP rfl ?_)))))))))))))
 refine wl_nil (zE (zH ?_))
 refine wc_loop (X := Nat) (fun k => [(0, slv p l.length cap), (1, .int .i64 px), (2, .int .i64 py), (7, .bool (insR l px py k)), (8, .int .i64 (k : Nat))]) (fun _ => []) (fun k => k ≤ l.length) (fun k => l.length - k) 0 (Nat.zero_le _) ⟨rfl, rfl, rfl, rfl, rfl, trivial⟩ [] rfl ?_
 intro k hk
 refine zA (zA (zB (wP rfl (wP rfl (wP rfl (wP rfl (wl_nil (zE ?_))))))))
 refine wc_cond rfl (fun h => ?_) (fun h => ?_)
 rotate_left
 ·have e : k = l.length := by simp at h; omega
  subst e
  refine zJ (zK (zK (zL (zE (zA (zB (wP rfl (wP rfl (wl_nil (zE (zO ?_)))))))))))
  exact ne_ret1 tH rfl (.tmp rfl) () rfl trivial fun W _ => NewBx.nil _ _
 have hk : k < l.length := by simp at h; omega
 clear h
 obtain ⟨b, off, rfl, hrow⟩ := hR.row hk
 refine zI (zE (zA (zH (zA (zB (wP rfl (wP rfl ?_)))))))
 refine wl_call1 rfl rfl rfl rfl rfl rfl (by kernel_rfl) (fun W hp => end_gives W _ cap l k hn (hR.hp hp) hk) ?_
 iterate 5 refine wP rfl ?_
 refine wl_nil ?_
 obtain ⟨B1, e1⟩ : ∃ b, ((sd l k).x == (sd l (nxt l.length k)).x) = b := ⟨_, rfl⟩
 obtain ⟨B2, e2⟩ : ∃ b, decide ((sd l (nxt l.length k)).x > px) = b := ⟨_, rfl⟩
 obtain ⟨B3, e3⟩ : ∃ b, decide (loy (sd l k) (sd l (nxt l.length k)) ≤ py) = b := ⟨_, rfl⟩
 obtain ⟨B4, e4⟩ : ∃ b, decide (py < hiy (sd l k) (sd l (nxt l.length k))) = b := ⟨_, rfl⟩
 have hM : passR (sd l k) (sd l (nxt l.length k)) px py = (B1 && B2 && B3 && B4) := by unfold passR; rw [e1, e2, e3, e4]
 have no : (B1 && B2 && B3 && B4) = false → insR l px py (k + 1) = insR l px py k := fun h => by
  show (if passR (sd l k) (sd l (nxt l.length k)) px py = true then !insR l px py k else insR l px py k) = _
  rw [hM, h, if_neg (by decide)]
 have yes : (B1 && B2 && B3 && B4) = true → insR l px py (k + 1) = !insR l px py k := fun h => by
  show (if passR (sd l k) (sd l (nxt l.length k)) px py = true then !insR l px py k else insR l px py k) = _
  rw [hM, h, if_pos rfl]
 refine zE (zA (zB (wP rfl (wP rfl ?_))))
 refine wI rfl rfl (by omega) (by omega) ?_
 refine wP rfl ?_
 refine wl_load rfl rfl rfl rfl (fun W hp => RowAt.load 0 tH rfl ((fun W hp => (hrow k hk).hp hp) W hp) rfl) ?_
 refine wP rfl (wP rfl (wP rfl ?_))
 refine wl_part 30 rfl (fun h30 => ?_) (fun h30 => ?_)
 ·refine wP rfl (wP rfl (wP rfl (wP rfl (wP rfl ?_))))
  refine wl_part 35 rfl (fun h35 => ?_) (fun h35 => ?_)
  ·refine wP rfl (wP rfl ?_)
   refine wI rfl rfl (by omega) (by omega) ?_
   refine wP rfl ?_
   refine wl_load rfl rfl rfl rfl (fun W hp => RowAt.load 1 tH rfl ((fun W hp => (hrow k hk).hp hp) W hp) rfl) ?_
   iterate 6 refine wP rfl ?_
   refine wl_part 46 rfl (fun h46 => ?_) (fun h46 => ?_)
   ·refine wP rfl (wP rfl (wP rfl ?_))
    refine wI rfl rfl (by omega) (by omega) ?_
    refine wP rfl ?_
    refine wl_load rfl rfl rfl rfl (fun W hp => RowAt.load 1 tH rfl ((fun W hp => (hrow k hk).hp hp) W hp) rfl) ?_
    refine wP rfl (wP rfl (wP rfl (wP rfl (wl_nil ?_))))
    have e : (B1 && B2 && B3 && B4) = B4 := by rw [show B1 = true from e1.symm.trans h30, show B2 = true from e2.symm.trans h35, show B3 = true from e3.symm.trans h46]; rfl
    refine zE ?_
    refine wc_cond rfl (fun h => ?_) (fun h => ?_)
    ·have e5 : (B1 && B2 && B3 && B4) = true := e.trans (e4.symm.trans h)
     refine zB (wP rfl (wP rfl (wP rfl (wl_nil (zN (zE (zB (wP rfl (wP rfl (wP rfl (wl_nil ?_)))))))))))
     exact ne_loop (k + 1) hk (by omega) ⟨rfl, rfl, rfl, congrArg (fun z => some (Value.bool z)) (yes e5).symm, congrArg (fun z => some (Value.int .i64 z)) (wrap_id (x := (k : Int) + 1) (by omega) (by omega)), trivial⟩ [] rfl
    ·have e5 : (B1 && B2 && B3 && B4) = false := e.trans (e4.symm.trans h)
     refine zI (zN (zE (zB (wP rfl (wP rfl (wP rfl (wl_nil ?_)))))))
     exact ne_loop (k + 1) hk (by omega) ⟨rfl, rfl, rfl, congrArg (fun z => some (Value.bool z)) (no e5).symm, congrArg (fun z => some (Value.int .i64 z)) (wrap_id (x := (k : Int) + 1) (by omega) (by omega)), trivial⟩ [] rfl
   ·refine wl_skip rfl rfl ?_
    iterate 8 refine wl_skip rfl rfl ?_
    refine wP rfl (wl_nil ?_)
    have e : (B1 && B2 && B3 && B4) = false := by first | (rw [show B1 = false from e1.symm.trans h30]; rfl) | (rw [show B2 = false from e2.symm.trans h35]; cases B1 <;> rfl) | (rw [show B3 = false from e3.symm.trans h46]; cases B1 <;> cases B2 <;> rfl)
    refine zE (zS rfl (zI (zN (zE (zB (wP rfl (wP rfl (wP rfl (wl_nil ?_)))))))))
    exact ne_loop (k + 1) hk (by omega) ⟨rfl, rfl, rfl, congrArg (fun z => some (Value.bool z)) (no e).symm, congrArg (fun z => some (Value.int .i64 z)) (wrap_id (x := (k : Int) + 1) (by omega) (by omega)), trivial⟩ [] rfl
  ·refine wl_skip rfl rfl ?_
   iterate 8 refine wl_skip rfl rfl ?_
   refine wP rfl (wP rfl ?_)
   iterate 9 refine wl_skip rfl rfl ?_
   refine wP rfl (wl_nil ?_)
   have e : (B1 && B2 && B3 && B4) = false := by first | (rw [show B1 = false from e1.symm.trans h30]; rfl) | (rw [show B2 = false from e2.symm.trans h35]; cases B1 <;> rfl) | (rw [show B3 = false from e3.symm.trans h46]; cases B1 <;> cases B2 <;> rfl)
   refine zE (zS rfl (zI (zN (zE (zB (wP rfl (wP rfl (wP rfl (wl_nil ?_)))))))))
   exact ne_loop (k + 1) hk (by omega) ⟨rfl, rfl, rfl, congrArg (fun z => some (Value.bool z)) (no e).symm, congrArg (fun z => some (Value.int .i64 z)) (wrap_id (x := (k : Int) + 1) (by omega) (by omega)), trivial⟩ [] rfl
 ·refine wl_skip rfl rfl ?_
  iterate 2 refine wl_skip rfl rfl ?_
  refine wP rfl (wP rfl ?_)
  iterate 9 refine wl_skip rfl rfl ?_
  refine wP rfl (wP rfl ?_)
  iterate 9 refine wl_skip rfl rfl ?_
  refine wP rfl (wl_nil ?_)
  have e : (B1 && B2 && B3 && B4) = false := by first | (rw [show B1 = false from e1.symm.trans h30]; rfl) | (rw [show B2 = false from e2.symm.trans h35]; cases B1 <;> rfl) | (rw [show B3 = false from e3.symm.trans h46]; cases B1 <;> cases B2 <;> rfl)
  refine zE (zS rfl (zI (zN (zE (zB (wP rfl (wP rfl (wP rfl (wl_nil ?_)))))))))
  exact ne_loop (k + 1) hk (by omega) ⟨rfl, rfl, rfl, congrArg (fun z => some (Value.bool z)) (no e).symm, congrArg (fun z => some (Value.int .i64 z)) (wrap_id (x := (k : Int) + 1) (by omega) (by omega)), trivial⟩ [] rfl
end Go.Proofs.YtlagebbefnnnnaaGreatDoor
namespace Go.Proofs.YtlagebbefnnnnaaGreatDoor
open Go Go.RowKit Go.Am
theorem sumTo_zero {f : Nat → Int} : ∀ n, (∀ i, i < n → f i = 0) → sumTo f n = 0
 | 0, _ => rfl
 | n + 1, h => by
  show sumTo f n + f n = 0
  rw [sumTo_zero n (fun i hi => h i (by omega)), h n (by omega)]; rfl
theorem sumTo_one {f : Nat → Int} {j : Nat} : ∀ n, j < n → (∀ i, i < n → i ≠ j → f i = 0) → sumTo f n = f j
 | 0, hj, _ => absurd hj (Nat.not_lt_zero _)
 | n + 1, hj, h => by
  show sumTo f n + f n = f j
  by_cases e : j = n
  ·subst e
   rw [sumTo_zero j (fun i hi => h i (by omega) (by omega))]; omega
  ·rw [sumTo_one n (by omega) (fun i hi => h i (by omega)), h n (by omega) (fun x => e x.symm)]; omega
theorem sumTo_sub (f g : Nat → Int) : ∀ n, sumTo (fun i => f i - g i) n = sumTo f n - sumTo g n
 | 0 => rfl
 | n + 1 => by
  show sumTo _ n + (f n - g n) = sumTo f n + f n - (sumTo g n + g n)
  rw [sumTo_sub f g n]; omega
theorem sumTo_swap (f : Nat → Nat → Int) (m : Nat) : ∀ n, sumTo (fun i => sumTo (fun j => f i j) m) n = sumTo (fun j => sumTo (fun i => f i j) n) m
 | 0 => (sumTo_zero m (fun _ _ => rfl)).symm
 | n + 1 => by
  show sumTo _ n + sumTo (fun j => f n j) m = sumTo (fun j => sumTo (fun i => f i j) n + f n j) m
  rw [sumTo_swap f m n, sumTo_add]
theorem sumTo_nonneg {f : Nat → Int} : ∀ n, (∀ i, i < n → 0 ≤ f i) → 0 ≤ sumTo f n
 | 0, _ => Int.le_refl _
 | n + 1, h => by
  have h1 := sumTo_nonneg n (fun i hi => h i (by omega))
  have h2 := h n (by omega)
  show 0 ≤ sumTo f n + f n
  omega
theorem sumTo_pos {f : Nat → Int} {j : Nat} : ∀ n, (∀ i, i < n → 0 ≤ f i) → j < n → 0 < f j → 0 < sumTo f n
 | 0, _, hj, _ => absurd hj (Nat.not_lt_zero _)
 | n + 1, h, hj, h0 => by
  have h1 := sumTo_nonneg n (fun i hi => h i (by omega))
  have h2 := h n (by omega)
  show 0 < sumTo f n + f n
  by_cases e : j = n
  ·subst e; omega
  ·have := sumTo_pos n (fun i hi => h i (by omega)) (show j < n by omega) h0
   omega
def ind (a b : Int) : Int := if a > b then 1 else 0
theorem ind_cases (a b : Int) : (ind a b = 1 ∧ a > b) ∨ (ind a b = 0 ∧ a ≤ b) := by
 unfold ind
 by_cases h : a > b
 ·rw [if_pos h]; exact .inl ⟨rfl, h⟩
 ·rw [if_neg h]; exact .inr ⟨rfl, by omega⟩
theorem ind_gt {a b : Int} (h : a > b) : ind a b = 1 := if_pos h
theorem ind_le {a b : Int} (h : a ≤ b) : ind a b = 0 := if_neg (by omega)
theorem ind_sum {a : Int} (h : 0 ≤ a) : ∀ m : Nat, sumTo (fun x => ind a x) m = if a ≤ m then a else m
 | 0 => by
  show (0 : Int) = _
  split <;> omega
 | m + 1 => by
  show sumTo (fun x => ind a x) m + ind a m = _
  rw [ind_sum h m]
  rcases ind_cases a m with ⟨e, h1⟩ | ⟨e, h1⟩ <;> rw [e] <;> split <;> split <;> omega
theorem ind_total {a : Int} {m : Nat} (h : 0 ≤ a) (h2 : a ≤ m) : sumTo (fun x => ind a x) m = a := by rw [ind_sum h, if_pos h2]
def On (σ : Nat → Nat) (X Y : Nat → Int) (k : Nat) (px py : Int) : Prop :=
 (X k ≤ px ∨ X (σ k) ≤ px) ∧ (px ≤ X k ∨ px ≤ X (σ k)) ∧ (Y k ≤ py ∨ Y (σ k) ≤ py) ∧ (py ≤ Y k ∨ py ≤ Y (σ k))
structure Net (T : Nat) (σ : Nat → Nat) (X Y : Nat → Int) : Prop where
 lt : ∀ k, k < T → σ k < T
 sum : ∀ f : Nat → Int, sumTo (fun k => f (σ k)) T = sumTo f T
 side : ∀ k, k < T → (X (σ k) = X k ∧ Y (σ k) ≠ Y k) ∨ (Y (σ k) = Y k ∧ X (σ k) ≠ X k)
 alt : ∀ k, k < T → (X (σ k) = X k ↔ Y (σ (σ k)) = Y (σ k))
 free : ∀ j k, j < T → k < T → ∀ px py, On σ X Y j px py → On σ X Y k px py → j = k ∨ j = σ k ∨ k = σ j
def Wn (T : Nat) (σ : Nat → Nat) (X Y : Nat → Int) (x y : Int) : Int := sumTo (fun k => ind (X k) x * (ind (Y (σ k)) y - ind (Y k) y)) T
def Vd (σ : Nat → Nat) (X Y : Nat → Int) (x y : Int) (k : Nat) : Int := (ind (X k) (x - 1) - ind (X k) x) * (ind (Y (σ k)) y - ind (Y k) y)
def Hd (σ : Nat → Nat) (X Y : Nat → Int) (x y : Int) (k : Nat) : Int := (ind (X (σ k)) x - ind (X k) x) * (ind (Y (σ k)) (y - 1) - ind (Y (σ k)) y)
def LC (σ : Nat → Nat) (X Y : Nat → Int) (k : Nat) (x y : Int) : Prop :=
 (Y k < Y (σ k) ∧ x = X k - 1 ∧ Y k ≤ y ∧ y < Y (σ k)) ∨ (Y (σ k) < Y k ∧ x = X k ∧ Y (σ k) ≤ y ∧ y < Y k) ∨
 (X k < X (σ k) ∧ y = Y k ∧ X k ≤ x ∧ x < X (σ k)) ∨ (X (σ k) < X k ∧ y = Y k - 1 ∧ X (σ k) ≤ x ∧ x < X k)
def RC (σ : Nat → Nat) (X Y : Nat → Int) (k : Nat) (x y : Int) : Prop :=
 (Y k < Y (σ k) ∧ x = X k ∧ Y k ≤ y ∧ y < Y (σ k)) ∨ (Y (σ k) < Y k ∧ x = X k - 1 ∧ Y (σ k) ≤ y ∧ y < Y k) ∨
 (X k < X (σ k) ∧ y = Y k - 1 ∧ X k ≤ x ∧ x < X (σ k)) ∨ (X (σ k) < X k ∧ y = Y k ∧ X (σ k) ≤ x ∧ x < X k)
def Lv (T : Nat) (σ : Nat → Nat) (X Y : Nat → Int) (k : Nat) (L : Int) : Prop :=
 (∀ x y, LC σ X Y k x y → Wn T σ X Y x y = L) ∧ ∀ x y, RC σ X Y k x y → Wn T σ X Y x y = L - 1
section
variable {T : Nat} {σ : Nat → Nat} {X Y : Nat → Int}
theorem Wn_x (x y : Int) : Wn T σ X Y (x - 1) y - Wn T σ X Y x y = sumTo (Vd σ X Y x y) T := by
 unfold Wn
 rw [← sumTo_sub]
 exact sumTo_congr T fun k _ => by unfold Vd; rw [Int.sub_mul]
theorem Wn_y (N : Net T σ X Y) (x y : Int) : Wn T σ X Y x y - Wn T σ X Y x (y - 1) = sumTo (Hd σ X Y x y) T := by
 have h1 := N.sum fun k => ind (X k) x * (ind (Y k) (y - 1) - ind (Y k) y)
 unfold Wn
 rw [← sumTo_sub]
 have h2 : sumTo (fun i => ind (X i) x * (ind (Y (σ i)) y - ind (Y i) y) - ind (X i) x * (ind (Y (σ i)) (y - 1) - ind (Y i) (y - 1))) T =
   sumTo (fun k => ind (X k) x * (ind (Y k) (y - 1) - ind (Y k) y) - ind (X k) x * (ind (Y (σ k)) (y - 1) - ind (Y (σ k)) y)) T :=
  sumTo_congr T fun k _ => by simp only [Int.mul_sub]; omega
 rw [h2, sumTo_sub, ← h1, ← sumTo_sub]
 exact sumTo_congr T fun k _ => by unfold Hd; rw [Int.sub_mul]
theorem vd_ne {x y : Int} {k : Nat} (h : Vd σ X Y x y k ≠ 0) : X k = x ∧ ((Y k ≤ y ∧ y < Y (σ k)) ∨ (Y (σ k) ≤ y ∧ y < Y k)) := by
 unfold Vd at h
 rcases ind_cases (X k) (x - 1) with ⟨e1, h1⟩ | ⟨e1, h1⟩ <;> rcases ind_cases (X k) x with ⟨e2, h2⟩ | ⟨e2, h2⟩ <;> rcases ind_cases (Y (σ k)) y with ⟨e3, h3⟩ | ⟨e3, h3⟩ <;> rcases ind_cases (Y k) y with ⟨e4, h4⟩ | ⟨e4, h4⟩ <;>
  rw [e1, e2, e3, e4] at h <;> first | exact absurd rfl h | omega
theorem hd_ne {x y : Int} {k : Nat} (h : Hd σ X Y x y k ≠ 0) : Y (σ k) = y ∧ ((X k ≤ x ∧ x < X (σ k)) ∨ (X (σ k) ≤ x ∧ x < X k)) := by
 unfold Hd at h
 rcases ind_cases (X (σ k)) x with ⟨e1, h1⟩ | ⟨e1, h1⟩ <;> rcases ind_cases (X k) x with ⟨e2, h2⟩ | ⟨e2, h2⟩ <;> rcases ind_cases (Y (σ k)) (y - 1) with ⟨e3, h3⟩ | ⟨e3, h3⟩ <;> rcases ind_cases (Y (σ k)) y with ⟨e4, h4⟩ | ⟨e4, h4⟩ <;>
  rw [e1, e2, e3, e4] at h <;> first | exact absurd rfl h | omega
theorem vd_up {y : Int} {k : Nat} (h : Y k ≤ y ∧ y < Y (σ k)) : Vd σ X Y (X k) y k = 1 := by
 unfold Vd
 rw [ind_gt (show X k > X k - 1 by omega), ind_le (Int.le_refl _), ind_gt h.2, ind_le h.1]; rfl
theorem vd_down {y : Int} {k : Nat} (h : Y (σ k) ≤ y ∧ y < Y k) : Vd σ X Y (X k) y k = -1 := by
 unfold Vd
 rw [ind_gt (show X k > X k - 1 by omega), ind_le (Int.le_refl _), ind_gt h.2, ind_le h.1]; rfl
theorem hd_east {x : Int} {k : Nat} (e : Y (σ k) = Y k) (h : X k ≤ x ∧ x < X (σ k)) : Hd σ X Y x (Y k) k = 1 := by
 unfold Hd
 rw [e, ind_gt (show Y k > Y k - 1 by omega), ind_le (Int.le_refl (Y k)), ind_gt h.2, ind_le h.1]; rfl
theorem hd_west {x : Int} {k : Nat} (e : Y (σ k) = Y k) (h : X (σ k) ≤ x ∧ x < X k) : Hd σ X Y x (Y k) k = -1 := by
 unfold Hd
 rw [e, ind_gt (show Y k > Y k - 1 by omega), ind_le (Int.le_refl (Y k)), ind_gt h.2, ind_le h.1]; rfl
theorem Net.up_eq (N : Net T σ X Y) {k : Nat} (hk : k < T) (hv : X (σ k) = X k) {c y : Int} (hc : c = X k - 1 ∨ c = X k) (h1 : (Y k ≤ y ∧ y + 1 < Y (σ k)) ∨ (Y (σ k) ≤ y ∧ y + 1 < Y k)) : Wn T σ X Y c (y + 1) = Wn T σ X Y c y := by
 have h2 := Wn_y N c (y + 1)
 rw [show y + 1 - 1 = y by omega] at h2
 rw [sumTo_zero (f := Hd σ X Y c (y + 1)) T (fun j hj => ?_)] at h2
 ·omega
 ·refine Classical.byContradiction fun h => ?_
  obtain ⟨e, hx⟩ := hd_ne h
  have e2 : Y j = y + 1 := by rcases N.side j hj with h | h <;> omega
  rcases N.free j k hj hk (X k) (y + 1) ⟨by omega, by omega, by omega, by omega⟩ ⟨by omega, by omega, by omega, by omega⟩ with h | h | h
  ·subst h; omega
  ·subst h; omega
  ·rw [h] at h1 hv hc; rw [h] at *; omega
theorem Net.flat_eq (N : Net T σ X Y) {k : Nat} (hk : k < T) (hh : Y (σ k) = Y k) {c x : Int} (hc : c = Y k - 1 ∨ c = Y k) (h1 : (X k ≤ x - 1 ∧ x < X (σ k)) ∨ (X (σ k) ≤ x - 1 ∧ x < X k)) : Wn T σ X Y (x - 1) c = Wn T σ X Y x c := by
 have h2 := Wn_x (T := T) (σ := σ) (X := X) (Y := Y) x c
 rw [sumTo_zero (f := Vd σ X Y x c) T (fun j hj => ?_)] at h2
 ·omega
 ·refine Classical.byContradiction fun h => ?_
  obtain ⟨e, hx⟩ := vd_ne h
  have e2 : X (σ j) = x := by rcases N.side j hj with h | h <;> omega
  rcases N.free j k hj hk x (Y k) ⟨by omega, by omega, by omega, by omega⟩ ⟨by omega, by omega, by omega, by omega⟩ with h | h | h
  ·subst h; omega
  ·subst h; omega
  ·rw [h] at h1; omega
theorem Net.up_const (N : Net T σ X Y) {k : Nat} (hk : k < T) (hv : X (σ k) = X k) {c lo : Int} (hc : c = X k - 1 ∨ c = X k) (hlo : lo = Y k ∨ lo = Y (σ k)) (hm : lo ≤ Y k ∧ lo ≤ Y (σ k)) : ∀ d : Nat, (lo + d < Y k ∨ lo + d < Y (σ k)) → Wn T σ X Y c (lo + d) = Wn T σ X Y c lo
 | 0, _ => by rw [show lo + ((0 : Nat) : Int) = lo by omega]
 | d + 1, h => by
  rw [show lo + ((d + 1 : Nat) : Int) = lo + d + 1 by omega, N.up_eq hk hv hc (by omega)]
  exact N.up_const hk hv hc hlo hm d (by omega)
theorem Net.flat_const (N : Net T σ X Y) {k : Nat} (hk : k < T) (hh : Y (σ k) = Y k) {c lo : Int} (hc : c = Y k - 1 ∨ c = Y k) (hlo : lo = X k ∨ lo = X (σ k)) (hm : lo ≤ X k ∧ lo ≤ X (σ k)) : ∀ d : Nat, (lo + d < X k ∨ lo + d < X (σ k)) → Wn T σ X Y (lo + d) c = Wn T σ X Y lo c
 | 0, _ => by rw [show lo + ((0 : Nat) : Int) = lo by omega]
 | d + 1, h => by
  have h1 := N.flat_eq hk hh hc (x := lo + ((d + 1 : Nat) : Int)) (by omega)
  rw [← h1, show lo + ((d + 1 : Nat) : Int) - 1 = lo + d by omega]
  exact N.flat_const hk hh hc hlo hm d (by omega)
theorem Net.over_up (N : Net T σ X Y) {k : Nat} (hk : k < T) (hv : X (σ k) = X k) {y : Int} (h1 : (Y k ≤ y ∧ y < Y (σ k)) ∨ (Y (σ k) ≤ y ∧ y < Y k)) : Wn T σ X Y (X k - 1) y - Wn T σ X Y (X k) y = Vd σ X Y (X k) y k := by
 rw [Wn_x]
 refine sumTo_one T hk fun j hj hne => ?_
 refine Classical.byContradiction fun h => ?_
 obtain ⟨e, hx⟩ := vd_ne h
 have e2 : X (σ j) = X j := by rcases N.side j hj with h | h <;> omega
 rcases N.free j k hj hk (X k) y ⟨by omega, by omega, by omega, by omega⟩ ⟨by omega, by omega, by omega, by omega⟩ with h | h | h
 ·exact hne h
 ·have := (N.alt k hk).1 hv
  rw [← h] at this; omega
 ·have := (N.alt j hj).1 e2
  rw [← h] at this; omega
theorem Net.over_flat (N : Net T σ X Y) {k : Nat} (hk : k < T) (hh : Y (σ k) = Y k) {x : Int} (h1 : (X k ≤ x ∧ x < X (σ k)) ∨ (X (σ k) ≤ x ∧ x < X k)) : Wn T σ X Y x (Y k) - Wn T σ X Y x (Y k - 1) = Hd σ X Y x (Y k) k := by
 rw [Wn_y N]
 refine sumTo_one T hk fun j hj hne => ?_
 refine Classical.byContradiction fun h => ?_
 obtain ⟨e, hx⟩ := hd_ne h
 have e2 : Y (σ j) = Y j := by rcases N.side j hj with h | h <;> omega
 rcases N.free j k hj hk x (Y k) ⟨by omega, by omega, by omega, by omega⟩ ⟨by omega, by omega, by omega, by omega⟩ with h | h | h
 ·exact hne h
 ·have := N.alt k hk
  rw [← h] at this h1
  have h9 := this.2 e2
  omega
 ·have := N.alt j hj
  rw [← h] at this hx
  have h9 := this.2 hh
  omega
theorem Net.lv_ex (N : Net T σ X Y) {k : Nat} (hk : k < T) : ∃ L, Lv T σ X Y k L := by
 rcases N.side k hk with ⟨hv, hd⟩ | ⟨hh, hd⟩
 ·have con : ∀ c, (c = X k - 1 ∨ c = X k) → ∀ lo, (lo = Y k ∨ lo = Y (σ k)) → lo ≤ Y k → lo ≤ Y (σ k) → ∀ y, lo ≤ y → (y < Y k ∨ y < Y (σ k)) → Wn T σ X Y c y = Wn T σ X Y c lo := fun c hc lo hlo m1 m2 y h1 h2 => by
   have := N.up_const hk hv hc hlo ⟨m1, m2⟩ (y - lo).toNat (by omega)
   rw [show lo + ((y - lo).toNat : Int) = y by omega] at this
   exact this
  by_cases hu : Y k < Y (σ k)
  ·refine ⟨Wn T σ X Y (X k - 1) (Y k), fun x y h => ?_, fun x y h => ?_⟩
   ·unfold LC at h
    obtain ⟨rfl, h1, h2⟩ : x = X k - 1 ∧ Y k ≤ y ∧ y < Y (σ k) := by omega
    exact con _ (.inl rfl) _ (.inl rfl) (Int.le_refl _) (by omega) y h1 (.inr h2)
   ·unfold RC at h
    obtain ⟨rfl, h1, h2⟩ : x = X k ∧ Y k ≤ y ∧ y < Y (σ k) := by omega
    have e1 := con _ (.inl rfl) _ (.inl rfl) (Int.le_refl _) (by omega) y h1 (.inr h2)
    have e2 := N.over_up hk hv (.inl ⟨h1, h2⟩)
    rw [vd_up ⟨h1, h2⟩] at e2
    omega
  ·refine ⟨Wn T σ X Y (X k) (Y (σ k)), fun x y h => ?_, fun x y h => ?_⟩
   ·unfold LC at h
    obtain ⟨rfl, h1, h2⟩ : x = X k ∧ Y (σ k) ≤ y ∧ y < Y k := by omega
    exact con _ (.inr rfl) _ (.inr rfl) (by omega) (Int.le_refl _) y h1 (.inl h2)
   ·unfold RC at h
    obtain ⟨rfl, h1, h2⟩ : x = X k - 1 ∧ Y (σ k) ≤ y ∧ y < Y k := by omega
    have e1 := con _ (.inr rfl) _ (.inr rfl) (by omega) (Int.le_refl _) y h1 (.inl h2)
    have e2 := N.over_up hk hv (.inr ⟨h1, h2⟩)
    rw [vd_down ⟨h1, h2⟩] at e2
    omega
 ·have con : ∀ c, (c = Y k - 1 ∨ c = Y k) → ∀ lo, (lo = X k ∨ lo = X (σ k)) → lo ≤ X k → lo ≤ X (σ k) → ∀ x, lo ≤ x → (x < X k ∨ x < X (σ k)) → Wn T σ X Y x c = Wn T σ X Y lo c := fun c hc lo hlo m1 m2 x h1 h2 => by
   have := N.flat_const hk hh hc hlo ⟨m1, m2⟩ (x - lo).toNat (by omega)
   rw [show lo + ((x - lo).toNat : Int) = x by omega] at this
   exact this
  by_cases hu : X k < X (σ k)
  ·refine ⟨Wn T σ X Y (X k) (Y k), fun x y h => ?_, fun x y h => ?_⟩
   ·unfold LC at h
    obtain ⟨rfl, h1, h2⟩ : y = Y k ∧ X k ≤ x ∧ x < X (σ k) := by omega
    exact con _ (.inr rfl) _ (.inl rfl) (Int.le_refl _) (by omega) x h1 (.inr h2)
   ·unfold RC at h
    obtain ⟨rfl, h1, h2⟩ : y = Y k - 1 ∧ X k ≤ x ∧ x < X (σ k) := by omega
    have e1 := con _ (.inr rfl) _ (.inl rfl) (Int.le_refl _) (by omega) x h1 (.inr h2)
    have e2 := N.over_flat hk hh (.inl ⟨h1, h2⟩)
    rw [hd_east hh ⟨h1, h2⟩] at e2
    omega
  ·refine ⟨Wn T σ X Y (X (σ k)) (Y k - 1), fun x y h => ?_, fun x y h => ?_⟩
   ·unfold LC at h
    obtain ⟨rfl, h1, h2⟩ : y = Y k - 1 ∧ X (σ k) ≤ x ∧ x < X k := by omega
    exact con _ (.inl rfl) _ (.inr rfl) (by omega) (Int.le_refl _) x h1 (.inl h2)
   ·unfold RC at h
    obtain ⟨rfl, h1, h2⟩ : y = Y k ∧ X (σ k) ≤ x ∧ x < X k := by omega
    have e1 := con _ (.inl rfl) _ (.inr rfl) (by omega) (Int.le_refl _) x h1 (.inl h2)
    have e2 := N.over_flat hk hh (.inr ⟨h1, h2⟩)
    rw [hd_west hh ⟨h1, h2⟩] at e2
    omega
theorem Net.share (N : Net T σ X Y) {k : Nat} (hk : k < T) : ∃ x y, (LC σ X Y k x y ∧ LC σ X Y (σ k) x y) ∨ (RC σ X Y k x y ∧ RC σ X Y (σ k) x y) := by
 have h1 := N.side k hk
 have h2 := N.side (σ k) (N.lt k hk)
 have h3 := N.alt k hk
 unfold LC RC
 generalize σ (σ k) = k2 at *
 generalize σ k = k1 at *
 by_cases a : Y k < Y k1
 ·by_cases b : X k1 < X k2
  ·exact ⟨X k1, Y k1 - 1, .inr ⟨by omega, by omega⟩⟩
  ·exact ⟨X k1 - 1, Y k1 - 1, .inl ⟨by omega, by omega⟩⟩
 by_cases a2 : Y k1 < Y k
 ·by_cases b : X k1 < X k2
  ·exact ⟨X k1, Y k1, .inl ⟨by omega, by omega⟩⟩
  ·exact ⟨X k1 - 1, Y k1, .inr ⟨by omega, by omega⟩⟩
 by_cases a3 : X k < X k1
 ·by_cases b : Y k1 < Y k2
  ·exact ⟨X k1 - 1, Y k1, .inl ⟨by omega, by omega⟩⟩
  ·exact ⟨X k1 - 1, Y k1 - 1, .inr ⟨by omega, by omega⟩⟩
 ·by_cases b : Y k1 < Y k2
  ·exact ⟨X k1, Y k1, .inr ⟨by omega, by omega⟩⟩
  ·exact ⟨X k1, Y k1 - 1, .inl ⟨by omega, by omega⟩⟩
theorem Net.lv_next (N : Net T σ X Y) {k : Nat} (hk : k < T) {L : Int} (h : Lv T σ X Y k L) : Lv T σ X Y (σ k) L := by
 obtain ⟨L', h'⟩ := N.lv_ex (N.lt k hk)
 obtain ⟨x, y, ⟨h1, h2⟩ | ⟨h1, h2⟩⟩ := N.share hk
 ·have e1 := h.1 x y h1
  have e2 := h'.1 x y h2
  rw [show L = L' by omega]; exact h'
 ·have e1 := h.2 x y h1
  have e2 := h'.2 x y h2
  rw [show L = L' by omega]; exact h'
theorem Wn_right {x : Int} (h : ∀ k, k < T → X k ≤ x) (y : Int) : Wn T σ X Y x y = 0 := sumTo_zero T fun k hk => by rw [ind_le (h k hk), Int.zero_mul]
theorem vd_cell {x y : Int} {j : Nat} (h : Vd σ X Y x y j ≠ 0) : (LC σ X Y j (x - 1) y ∧ RC σ X Y j x y) ∨ (RC σ X Y j (x - 1) y ∧ LC σ X Y j x y) := by
 obtain ⟨e, hx⟩ := vd_ne h
 rcases hx with ⟨h1, h2⟩ | ⟨h1, h2⟩
 ·exact .inl ⟨.inl ⟨by omega, by omega, h1, h2⟩, .inl ⟨by omega, by omega, h1, h2⟩⟩
 ·exact .inr ⟨.inr (.inl ⟨by omega, by omega, h1, h2⟩), .inr (.inl ⟨by omega, by omega, h1, h2⟩)⟩
theorem Net.ray (N : Net T σ X Y) {M : Int} (hM : ∀ k, k < T → X k ≤ M) (y : Int) : ∀ d : Nat, Wn T σ X Y (M - d) y = 0 ∨ ∃ k L, k < T ∧ Lv T σ X Y k L ∧ (Wn T σ X Y (M - d) y = L ∨ Wn T σ X Y (M - d) y = L - 1)
 | 0 => .inl (Wn_right (fun k hk => by have := hM k hk; omega) y)
 | d + 1 => by
  have h1 := Wn_x (T := T) (σ := σ) (X := X) (Y := Y) (M - d) y
  rw [show M - ((d + 1 : Nat) : Int) = M - d - 1 by omega]
  by_cases h : ∃ j, j < T ∧ Vd σ X Y (M - d) y j ≠ 0
  ·obtain ⟨j, hj, h⟩ := h
   obtain ⟨L, hL⟩ := N.lv_ex hj
   refine .inr ⟨j, L, hj, hL, ?_⟩
   rcases vd_cell h with ⟨h, _⟩ | ⟨h, _⟩
   ·exact .inl (hL.1 _ _ h)
   ·exact .inr (hL.2 _ _ h)
  ·rw [sumTo_zero (f := Vd σ X Y (M - d) y) T (fun j hj => Classical.byContradiction fun e => h ⟨j, hj, e⟩)] at h1
   rw [show Wn T σ X Y (M - d - 1) y = Wn T σ X Y (M - d) y by omega]
   exact N.ray hM y d
theorem Net.values (N : Net T σ X Y) (x y : Int) : Wn T σ X Y x y = 0 ∨ ∃ k L, k < T ∧ Lv T σ X Y k L ∧ (Wn T σ X Y x y = L ∨ Wn T σ X Y x y = L - 1) := by
 have bound : ∀ n, ∃ M : Int, ∀ k, k < n → X k ≤ M := fun n => by
  induction n with
  | zero => exact ⟨0, fun k hk => absurd hk (Nat.not_lt_zero _)⟩
  | succ n ih =>
   obtain ⟨M, hM⟩ := ih
   refine ⟨if M < X n then X n else M, fun k hk => ?_⟩
   by_cases e : k = n
   ·subst e; split <;> omega
   ·have := hM k (by omega); split <;> omega
 obtain ⟨M, hM⟩ := bound T
 by_cases h : x ≤ M
 ·have := N.ray hM y (M - x).toNat
  rw [show M - ((M - x).toNat : Int) = x by omega] at this
  exact this
 ·exact .inl (Wn_right (fun k hk => by have := hM k hk; omega) y)
theorem Net.first (N : Net T σ X Y) {M : Int} (hM : ∀ k, k < T → X k ≤ M) (y : Int) : ∀ d : Nat, (∀ x, M - d ≤ x → Wn T σ X Y x y = 0) ∨ ∃ k x, k < T ∧ (∀ x', x ≤ x' → Wn T σ X Y x' y = 0) ∧ ((LC σ X Y k (x - 1) y ∧ RC σ X Y k x y) ∨ (RC σ X Y k (x - 1) y ∧ LC σ X Y k x y))
 | 0 => .inl fun x hx => Wn_right (fun k hk => by have := hM k hk; omega) y
 | d + 1 => by
  rcases N.first hM y d with h0 | h0
  ·by_cases h : ∃ j, j < T ∧ Vd σ X Y (M - d) y j ≠ 0
   ·obtain ⟨j, hj, h⟩ := h
    exact .inr ⟨j, M - d, hj, h0, vd_cell h⟩
   ·left
    intro x hx
    have h1 := Wn_x (T := T) (σ := σ) (X := X) (Y := Y) (M - d) y
    rw [sumTo_zero (f := Vd σ X Y (M - d) y) T (fun j hj => Classical.byContradiction fun e => h ⟨j, hj, e⟩)] at h1
    have h2 := h0 (M - d) (Int.le_refl _)
    by_cases e : x = M - d - 1
    ·subst e; omega
    ·exact h0 x (by omega)
  ·exact .inr h0
theorem Net.range (N : Net T σ X Y) {M : Int} (hX : ∀ k, k < T → 0 ≤ X k ∧ X k ≤ M) (hY : ∀ k, k < T → 0 ≤ Y k ∧ Y k ≤ M) {x y : Int} (h : Wn T σ X Y x y ≠ 0) : (0 ≤ x ∧ x < M) ∧ 0 ≤ y ∧ y < M := by
 refine Classical.byContradiction fun hn => h ?_
 by_cases h1 : M ≤ x
 ·exact Wn_right (fun k hk => by have := hX k hk; omega) y
 by_cases h2 : x < 0
 ·unfold Wn
  rw [sumTo_congr (g := fun k => ind (Y (σ k)) y - ind (Y k) y) T (fun k hk => by rw [ind_gt (show X k > x by have := hX k hk; omega), Int.one_mul]), sumTo_sub, N.sum (fun k => ind (Y k) y)]; omega
 by_cases h3 : M ≤ y
 ·exact sumTo_zero T fun k hk => by rw [ind_le (show Y k ≤ y by have := hY k hk; omega), ind_le (show Y (σ k) ≤ y by have := hY _ (N.lt k hk); omega)]; simp
 by_cases h4 : y < 0
 ·exact sumTo_zero T fun k hk => by rw [ind_gt (show Y k > y by have := hY k hk; omega), ind_gt (show Y (σ k) > y by have := hY _ (N.lt k hk); omega)]; simp
 omega
theorem Net.area (N : Net T σ X Y) {M : Nat} (hX : ∀ k, k < T → 0 ≤ X k ∧ X k ≤ M) (hY : ∀ k, k < T → 0 ≤ Y k ∧ Y k ≤ M) :
  sumTo (fun k => X k * Y (σ k) - Y k * X (σ k)) T = 2 * sumTo (fun x => sumTo (fun y => Wn T σ X Y x y) M) M := by
 have h1 : sumTo (fun k => X k * (Y (σ k) - Y k)) T = sumTo (fun x => sumTo (fun y => Wn T σ X Y x y) M) M := by
  unfold Wn
  rw [sumTo_congr (g := fun k => sumTo (fun x : Nat => sumTo (fun y : Nat => ind (X k) x * (ind (Y (σ k)) y - ind (Y k) y)) M) M) T fun k hk => ?_]
  ·rw [sumTo_swap]
   refine sumTo_congr M fun x _ => ?_
   rw [sumTo_swap]
  ·have e1 := ind_total (hX k hk).1 (hX k hk).2
   have e2 := ind_total (hY k hk).1 (hY k hk).2
   have e3 := ind_total (hY _ (N.lt k hk)).1 (hY _ (N.lt k hk)).2
   rw [sumTo_congr (g := fun x : Nat => (Y (σ k) - Y k) * ind (X k) x) M fun x _ => ?_]
   ·rw [sumTo_mul, e1, Int.mul_comm]
   ·show sumTo (fun y : Nat => ind (X k) x * (ind (Y (σ k)) y - ind (Y k) y)) M = _
    rw [sumTo_mul, sumTo_sub, e2, e3, Int.mul_comm]
 rw [← h1, ← sumTo_mul]
 have h2 := N.sum fun k => X k * Y k
 have h3 : sumTo (fun k => X k * Y (σ k) - Y k * X (σ k) - 2 * (X k * (Y (σ k) - Y k))) T = sumTo (fun k => X k * Y k - X (σ k) * Y (σ k)) T := sumTo_congr T fun k hk => by
  rcases N.side k hk with ⟨e, _⟩ | ⟨e, _⟩
  ·rw [e, Int.mul_sub, Int.mul_comm (Y k) (X k)]; omega
  ·rw [e, Int.mul_sub, Int.mul_comm (Y k) (X (σ k))]; omega
 rw [sumTo_sub, sumTo_sub (fun k => X k * Y k), h2] at h3
 omega
end
theorem ring_all {n : Nat} {P : Nat → Prop} (h0 : 0 < n → P 0) (h : ∀ k, k < n → P k → P (nxt n k)) : ∀ k, k < n → P k
 | 0, hk => h0 hk
 | k + 1, hk => by
  have := h k (by omega) (ring_all h0 h k (by omega))
  rw [show nxt n k = k + 1 from Nat.mod_eq_of_lt hk] at this
  exact this
section
variable {n : Nat} {X Y : Nat → Int}
theorem Net.one (N : Net n (nxt n) X Y) (h0 : 0 < n) : ∃ L : Int, (L = 0 ∨ L = 1) ∧ (∀ k, k < n → Lv n (nxt n) X Y k L) ∧ ∀ x y, Wn n (nxt n) X Y x y = 0 ∨ Wn n (nxt n) X Y x y = 2 * L - 1 := by
 obtain ⟨L, hL⟩ := N.lv_ex h0
 have all : ∀ k, k < n → Lv n (nxt n) X Y k L := ring_all (fun _ => hL) fun k hk h => N.lv_next hk h
 have hb : ∀ m, ∃ M : Int, ∀ k, k < m → X k ≤ M := fun m => by
  induction m with
  | zero => exact ⟨0, fun k hk => absurd hk (Nat.not_lt_zero _)⟩
  | succ m ih =>
   obtain ⟨M, hM⟩ := ih
   refine ⟨if M < X m then X m else M, fun k hk => ?_⟩
   by_cases e : k = m
   ·subst e; split <;> omega
   ·have := hM k (by omega); split <;> omega
 obtain ⟨M, hM⟩ := hb n
 have cell : ∃ x y, LC (nxt n) X Y 0 x y ∧ ∃ x' y', RC (nxt n) X Y 0 x' y' := by
  have := N.side 0 h0
  unfold LC RC
  by_cases a : Y 0 < Y (nxt n 0)
  ·exact ⟨X 0 - 1, Y 0, by omega, X 0, Y 0, by omega⟩
  by_cases a2 : Y (nxt n 0) < Y 0
  ·exact ⟨X 0, Y (nxt n 0), by omega, X 0 - 1, Y (nxt n 0), by omega⟩
  by_cases a3 : X 0 < X (nxt n 0)
  ·exact ⟨X 0, Y 0, by omega, X 0, Y 0 - 1, by omega⟩
  ·exact ⟨X (nxt n 0), Y 0 - 1, by omega, X (nxt n 0), Y 0, by omega⟩
 obtain ⟨x1, y1, c1, x2, y2, c2⟩ := cell
 have e1 := hL.1 _ _ c1
 have e2 := hL.2 _ _ c2
 have try1 : ∀ x y, Wn n (nxt n) X Y x y ≠ 0 → L = 0 ∨ L = 1 := fun x y h => by
  have hx : x < M := Classical.byContradiction fun e => h (Wn_right (fun k hk => by have := hM k hk; omega) y)
  rcases N.first hM y (M - x).toNat with h1 | ⟨k, x', hk, h1, h2⟩
  ·exact absurd (h1 x (by omega)) h
  ·have z := h1 x' (Int.le_refl _)
   rcases h2 with ⟨_, h2⟩ | ⟨_, h2⟩
   ·have := (all k hk).2 _ _ h2; omega
   ·have := (all k hk).1 _ _ h2; omega
 have h01 : L = 0 ∨ L = 1 := by
  by_cases e : L = 0
  ·exact .inl e
  ·exact try1 x1 y1 (by rw [e1]; exact e)
 refine ⟨L, h01, all, fun x y => ?_⟩
 rcases N.values x y with h | ⟨k, L', hk, h1, h2⟩
 ·exact .inl h
 ·have e : L' = L := by
   have a := all k hk
   have hc : ∃ x y, LC (nxt n) X Y k x y := by
    have := N.side k hk
    unfold LC
    by_cases a : Y k < Y (nxt n k)
    ·exact ⟨X k - 1, Y k, by omega⟩
    by_cases a2 : Y (nxt n k) < Y k
    ·exact ⟨X k, Y (nxt n k), by omega⟩
    by_cases a3 : X k < X (nxt n k)
    ·exact ⟨X k, Y k, by omega⟩
    ·exact ⟨X (nxt n k), Y k - 1, by omega⟩
   obtain ⟨x, y, hc⟩ := hc
   rw [← h1.1 _ _ hc, a.1 _ _ hc]
  omega
theorem Net.area_one (N : Net n (nxt n) X Y) (h0 : 0 < n) {M : Nat} (hX : ∀ k, k < n → 0 ≤ X k ∧ X k ≤ M) (hY : ∀ k, k < n → 0 ≤ Y k ∧ Y k ≤ M) {L : Int} (h01 : L = 0 ∨ L = 1) (hL : ∀ k, k < n → Lv n (nxt n) X Y k L) (hv : ∀ x y, Wn n (nxt n) X Y x y = 0 ∨ Wn n (nxt n) X Y x y = 2 * L - 1) :
  0 < (2 * L - 1) * sumTo (fun k => X k * Y (nxt n k) - Y k * X (nxt n k)) n := by
 rw [N.area hX hY]
 have hsome : ∃ x y, Wn n (nxt n) X Y x y = 2 * L - 1 := by
  have := N.side 0 h0
  have h := hL 0 h0
  have cell : (∃ x y, LC (nxt n) X Y 0 x y) ∧ ∃ x' y', RC (nxt n) X Y 0 x' y' := by
   unfold LC RC
   by_cases a : Y 0 < Y (nxt n 0)
   ·exact ⟨⟨X 0 - 1, Y 0, by omega⟩, X 0, Y 0, by omega⟩
   by_cases a2 : Y (nxt n 0) < Y 0
   ·exact ⟨⟨X 0, Y (nxt n 0), by omega⟩, X 0 - 1, Y (nxt n 0), by omega⟩
   by_cases a3 : X 0 < X (nxt n 0)
   ·exact ⟨⟨X 0, Y 0, by omega⟩, X 0, Y 0 - 1, by omega⟩
   ·exact ⟨⟨X (nxt n 0), Y 0 - 1, by omega⟩, X (nxt n 0), Y 0, by omega⟩
  obtain ⟨⟨x1, y1, c1⟩, x2, y2, c2⟩ := cell
  have e1 := h.1 _ _ c1
  have e2 := h.2 _ _ c2
  rcases h01 with e | e
  ·exact ⟨x2, y2, by omega⟩
  ·exact ⟨x1, y1, by omega⟩
 obtain ⟨x, y, hxy⟩ := hsome
 obtain ⟨⟨r1, r2⟩, r3, r4⟩ := N.range hX hY (x := x) (y := y) (by rw [hxy]; omega)
 have sq : ∀ x y, 0 ≤ (2 * L - 1) * Wn n (nxt n) X Y x y := fun x y => by
  rcases hv x y with h | h <;> rw [h]
  ·simp
  ·rcases h01 with e | e <;> subst e <;> decide
 have pos : 0 < (2 * L - 1) * Wn n (nxt n) X Y x y := by
  rw [hxy]
  rcases h01 with e | e <;> subst e <;> decide
 have hp : 0 < sumTo (fun i => sumTo (fun j => (2 * L - 1) * Wn n (nxt n) X Y i j) M) M := by
  refine sumTo_pos (j := x.toNat) M (fun i _ => sumTo_nonneg M fun j _ => sq i j) (by omega) ?_
  refine sumTo_pos (j := y.toNat) M (fun j _ => sq _ j) (by omega) ?_
  show 0 < (2 * L - 1) * Wn n (nxt n) X Y (x.toNat : Nat) (y.toNat : Nat)
  rw [show ((x.toNat : Nat) : Int) = x by omega, show ((y.toNat : Nat) : Int) = y by omega]
  exact pos
 have e : sumTo (fun i : Nat => sumTo (fun j : Nat => (2 * L - 1) * Wn n (nxt n) X Y i j) M) M = (2 * L - 1) * sumTo (fun i : Nat => sumTo (fun j : Nat => Wn n (nxt n) X Y i j) M) M := by
  rw [← sumTo_mul]
  exact sumTo_congr M fun i _ => sumTo_mul _ _ M
 rw [e] at hp
 rcases h01 with e | e <;> subst e <;> omega
end
theorem at_ex_up {rs : List (List Sd)} {m : Nat} : ∀ k, k ≤ rs.length → m < tot (rs.take k) → ∃ r i, r < k ∧ i < (rg rs r).length ∧ m = tot (rs.take r) + i
 | 0, _, h => by simp [tot] at h
 | k + 1, hk, h => by
  rw [tot_take_succ (by omega)] at h
  by_cases e : m < tot (rs.take k)
  ·obtain ⟨r, i, h1, h2, h3⟩ := at_ex_up k (by omega) e
   exact ⟨r, i, by omega, h2, h3⟩
  ·exact ⟨k, m - tot (rs.take k), by omega, by omega, by omega⟩
theorem at_ex {rs : List (List Sd)} {m : Nat} (h : m < tot rs) : ∃ r i, r < rs.length ∧ i < (rg rs r).length ∧ m = tot (rs.take r) + i := at_ex_up rs.length (Nat.le_refl _) (by rw [List.take_length]; exact h)
theorem nxt_val {n k : Nat} (h : k < n) : nxt n k = if k + 1 = n then 0 else k + 1 := by
 unfold nxt
 split
 ·rename_i e; rw [e, Nat.mod_self]
 ·exact Nat.mod_eq_of_lt (by omega)
theorem prv_val {n k : Nat} (h : k < n) : prv n k = if k = 0 then n - 1 else k - 1 := by
 unfold prv
 split
 ·rename_i e; subst e; rw [Nat.zero_add]; exact Nat.mod_eq_of_lt (by omega)
 ·rw [show k + n - 1 = k - 1 + n by omega, Nat.add_mod_right]; exact Nat.mod_eq_of_lt (by omega)
theorem prv_nxt {n k : Nat} (h : k < n) : prv n (nxt n k) = k := by
 rw [prv_val (nxt_lt h), nxt_val h]; split <;> split <;> omega
theorem nb_iff {n r a b : Nat} (hb : b < a) (ha : a < n) : nbB n (r, a) (r, b) = true ↔ (a = nxt n b ∨ b = nxt n a) := by
 unfold nbB
 rw [nxt_val ha, nxt_val (show b < n by omega)]
 simp only [beq_self_eq_true, Bool.true_and, Bool.or_eq_true, beq_iff_eq]
 split <;> split <;> omega
def near (rs : List (List Sd)) (r i s k : Nat) : Prop := r = s ∧ (i = k ∨ i = nxt (rg rs r).length k ∨ k = nxt (rg rs r).length i)
theorem crs_iff (rs : List (List Sd)) : crs rs = false ↔ ∀ r i s k, r < rs.length → i < (rg rs r).length → s < rs.length → k < (rg rs s).length → ¬ near rs r i s k → meetB (bsd rs (r, i)) (esd rs (r, i)) (bsd rs (s, k)) (esd rs (s, k)) = false := by
 constructor
 ·intro h r i s k hr hi hs hk hn
  by_cases e : r = s
  rotate_left
  ·exact crs_apart h hr hi hs hk e
  subst e
  have one : ∀ {a b : Nat}, a < (rg rs r).length → b < a → ¬ (a = nxt (rg rs r).length b ∨ b = nxt (rg rs r).length a) → meetB (bsd rs (r, a)) (esd rs (r, a)) (bsd rs (r, b)) (esd rs (r, b)) = false := by
   intro a b ha hb hab
   have hj := tot_at hr ha
   have h2 : crossP rs (pl rs (tot (rs.take r) + a)) (pl rs (tot (rs.take r) + b)) = false := by
    cases he : crossP rs (pl rs (tot (rs.take r) + a)) (pl rs (tot (rs.take r) + b)) with
    | false => rfl
    | true =>
     have : crs rs = true := List.any_eq_true.2 ⟨_, List.mem_range.2 hj, List.any_eq_true.2 ⟨_, List.mem_range.2 (by omega), he⟩⟩
     rw [h] at this; cases this
   rw [pl_at hr ha, pl_at hr (by omega)] at h2
   unfold crossP at h2
   have h3 : nbB (rg rs r).length (r, a) (r, b) = false := Bool.eq_false_iff.2 fun e => hab ((nb_iff hb ha).1 e)
   rw [h3] at h2
   simpa using h2
  rcases Nat.lt_trichotomy i k with hlt | heq | hgt
  ·rw [meet_comm]
   exact one hk hlt fun h => hn ⟨rfl, by omega⟩
  ·exact absurd ⟨rfl, .inl heq⟩ hn
  ·exact one hi hgt fun h => hn ⟨rfl, by omega⟩
 ·intro h
  unfold crs
  refine any_range_false fun m hm => any_range_false fun j hj => ?_
  obtain ⟨r, i, hr, hi, rfl⟩ := at_ex hm
  obtain ⟨s, k, hs, hk, rfl⟩ := at_ex (show j < tot rs by omega)
  rw [pl_at hr hi, pl_at hs hk]
  unfold crossP
  cases hb : nbB (rg rs r).length (r, i) (s, k) with
  | true => rfl
  | false =>
   simp only [Bool.not_false, Bool.true_and]
   refine h r i s k hr hi hs hk fun hn => ?_
   obtain ⟨rfl, hn⟩ := hn
   have hik : k < i := by omega
   have := (nb_iff (r := r) hik hi).2 (by omega)
   rw [hb] at this; cases this
theorem meet_on {t u t' u' : Sd} {px py : Int} (h : meetB t u t' u' = false) (h1 : (t.x ≤ px ∨ u.x ≤ px) ∧ (px ≤ t.x ∨ px ≤ u.x) ∧ (t.y ≤ py ∨ u.y ≤ py) ∧ (py ≤ t.y ∨ py ≤ u.y))
  (h2 : (t'.x ≤ px ∨ u'.x ≤ px) ∧ (px ≤ t'.x ∨ px ≤ u'.x) ∧ (t'.y ≤ py ∨ u'.y ≤ py) ∧ (py ≤ t'.y ∨ py ≤ u'.y)) : False := by
 have e : meetB t u t' u' = true := by
  unfold meetB lox hix loy hiy
  simp only [Bool.and_eq_true, decide_eq_true_eq]
  refine ⟨⟨⟨?_, ?_⟩, ?_⟩, ?_⟩ <;> split <;> split <;> omega
 rw [h] at e; cases e
theorem ring_net {rs : List (List Sd)} (hin : allR rs) (hs : ∀ l ∈ rs, shp l = true) (hc : crs rs = false) {r : Nat} (hr : r < rs.length) : Net (rg rs r).length (nxt (rg rs r).length) (fun k => (sd (rg rs r) k).x) (fun k => (sd (rg rs r) k).y) := by
 have hm : rg rs r ∈ rs := List.mem_of_getElem? (rg_get hr)
 refine ⟨fun k hk => nxt_lt hk, fun f => sumTo_nxt f _, fun k hk => ?_, fun k hk => ?_, fun j k hj hk px py h1 h2 => ?_⟩
 ·have := (shp_side (hin _ hm) (hs _ hm) hk).1
  omega
 ·have h1 := (shp_side (hin _ hm) (hs _ hm) hk).1
  have h2 := (shp_side (hin _ hm) (hs _ hm) (nxt_lt hk))
  rw [prv_nxt hk] at h2
  omega
 ·refine Classical.byContradiction fun hn => ?_
  have h := (crs_iff rs).1 hc r j r k hr hj hr hk fun h => hn (by obtain ⟨_, h⟩ := h; omega)
  exact meet_on h h1 h2
theorem ring_one {rs : List (List Sd)} (hin : allR rs) (hs : ∀ l ∈ rs, shp l = true) (hc : crs rs = false) {r : Nat} (hr : r < rs.length) :
  ∃ L : Int, (L = 0 ∨ L = 1) ∧ (∀ k, k < (rg rs r).length → Lv (rg rs r).length (nxt (rg rs r).length) (fun k => (sd (rg rs r) k).x) (fun k => (sd (rg rs r) k).y) k L) ∧
   (∀ x y, Wn (rg rs r).length (nxt (rg rs r).length) (fun k => (sd (rg rs r) k).x) (fun k => (sd (rg rs r) k).y) x y = 0 ∨ Wn (rg rs r).length (nxt (rg rs r).length) (fun k => (sd (rg rs r) k).x) (fun k => (sd (rg rs r) k).y) x y = 2 * L - 1) ∧
   0 < (2 * L - 1) * sumTo (crossAt (rg rs r)) (rg rs r).length := by
 have hm : rg rs r ∈ rs := List.mem_of_getElem? (rg_get hr)
 have N := ring_net hin hs hc hr
 have h4 := shp_len (hs _ hm)
 obtain ⟨L, h01, hL, hv⟩ := N.one (by omega)
 refine ⟨L, h01, hL, hv, ?_⟩
 have hi : ∀ k, k < (rg rs r).length → inR (sd (rg rs r) k) := fun k hk => sd_inR (hin _ hm) hk
 exact N.area_one (M := 65536) (by omega) (fun k hk => ⟨(hi k hk).1, (hi k hk).2.1⟩) (fun k hk => ⟨(hi k hk).2.2.1, (hi k hk).2.2.2⟩) h01 hL hv
theorem area_ne {rs : List (List Sd)} (hin : allR rs) (hs : ∀ l ∈ rs, shp l = true) (hc : crs rs = false) {r : Nat} (hr : r < rs.length) : sumTo (crossAt (rg rs r)) (rg rs r).length ≠ 0 := by
 obtain ⟨L, _, _, _, h⟩ := ring_one hin hs hc hr
 intro e
 rw [e, Int.mul_zero] at h
 exact absurd h (by decide)
end Go.Proofs.YtlagebbefnnnnaaGreatDoor
namespace Go.Proofs.YtlagebbefnnnnaaGreatDoor
open Go Go.RowKit Go.Am
set_option maxRecDepth 10000
-- BOXES 2
def badR (rs : List (List Sd)) (r i s k : Nat) : Bool :=
 !((r == s) && (decide (k ≤ i) || (k == i + 1) || ((i == 0) && (k + 1 == (rg rs r).length)))) && meetB (sd (rg rs r) i) (sd (rg rs r) (nxt (rg rs r).length i)) (sd (rg rs s) k) (sd (rg rs s) (nxt (rg rs s).length k))
theorem badR_crs {rs : List (List Sd)} {r i s k : Nat} (hr : r < rs.length) (hi : i < (rg rs r).length) (hs : s < rs.length) (hk : k < (rg rs s).length) (h : badR rs r i s k = true) : crs rs = true := by
 unfold badR at h
 obtain ⟨h1, h2⟩ := Bool.and_eq_true_iff.1 h
 cases hc : crs rs with
 | true => rfl
 | false =>
  have := (crs_iff rs).1 hc r i s k hr hi hs hk (fun hn => by
   obtain ⟨rfl, hn⟩ := hn
   rw [nxt_val hi, nxt_val hk] at hn
   have : ((r == r) && (decide (k ≤ i) || (k == i + 1) || ((i == 0) && (k + 1 == (rg rs r).length)))) = true := by
    simp only [beq_self_eq_true, Bool.true_and, Bool.or_eq_true, Bool.and_eq_true, decide_eq_true_eq, beq_iff_eq]
    revert hn
    split <;> split <;> intro hn <;> omega
   rw [this] at h1; cases h1)
  rw [show meetB (bsd rs (r, i)) (esd rs (r, i)) (bsd rs (s, k)) (esd rs (s, k)) = true from h2] at this
  cases this
theorem crs_noBad {rs : List (List Sd)} (h : ∀ r i s k, r < rs.length → i < (rg rs r).length → s < rs.length → k < (rg rs s).length → r ≤ s → badR rs r i s k = false) : crs rs = false := by
 have one : ∀ r i s k, r < rs.length → i < (rg rs r).length → s < rs.length → k < (rg rs s).length → (r < s ∨ (r = s ∧ i < k)) → ¬ near rs r i s k → meetB (bsd rs (r, i)) (esd rs (r, i)) (bsd rs (s, k)) (esd rs (s, k)) = false := fun r i s k hr hi hs hk ho hn => by
  have hb := h r i s k hr hi hs hk (by omega)
  unfold badR at hb
  have : ((r == s) && (decide (k ≤ i) || (k == i + 1) || ((i == 0) && (k + 1 == (rg rs r).length)))) = false := by
   by_cases e : r = s
   ·subst e
    have hik : i < k := by omega
    rw [beq_self_eq_true, Bool.true_and, Bool.eq_false_iff]
    intro h2
    refine hn ⟨rfl, ?_⟩
    rw [nxt_val hi, nxt_val hk]
    simp only [Bool.or_eq_true, Bool.and_eq_true, decide_eq_true_eq, beq_iff_eq] at h2
    split <;> split <;> omega
   ·rw [beq_eq_false_iff_ne.2 e]; rfl
  rw [this, Bool.not_false, Bool.true_and] at hb
  exact hb
 refine (crs_iff rs).2 fun r i s k hr hi hs hk hn => ?_
 by_cases ho : r < s ∨ (r = s ∧ i < k)
 ·exact one r i s k hr hi hs hk ho hn
 ·rw [meet_comm]
  have hne : ¬ (r = s ∧ i = k) := fun ⟨e1, e2⟩ => hn ⟨e1, .inl e2⟩
  refine one s k r i hs hk hr hi (by omega) fun hn2 => hn ?_
  obtain ⟨rfl, hn2⟩ := hn2
  exact ⟨rfl, by omega⟩
set_option maxHeartbeats 8000000 in
theorem crossedR_gives (W : World) (p : Option Addr) (cap : Nat) (rs : List (List Sd)) (hn : rs.length < 4611686018427387904) (hl : ∀ l ∈ rs, l.length < 4611686018427387904) (hR : RingsP W p rs) :
  CallsR Tryz.prog 48 #[slv p rs.length cap] W (fun _ : Unit => .bool (crs rs)) (fun _ => True) (fun _ => []) := by
 refine calls_enter (args := [slv p rs.length cap]) Tryz.func48 rfl rfl rfl ?_
 refine zA (zB (wP rfl (wl_nil (zE (zA (zA (zB (wP rfl (wl_nil (zE (zH ?_)))))))))))
 refine wc_loop (X := Nat) (fun r => [(0, slv p rs.length cap), (3, .int .i64 (r : Nat))]) (fun _ => [])
  (fun r => r ≤ rs.length ∧ ∀ r' i s k, r' < r → r' < rs.length → i < (rg rs r').length → s < rs.length → k < (rg rs s).length → r' ≤ s → badR rs r' i s k = false) (fun r => rs.length - r) 0 ⟨Nat.zero_le _, fun r' i s k h => absurd h (Nat.not_lt_zero _)⟩ ⟨rfl, rfl, trivial⟩ [] rfl ?_
 rintro r ⟨hr, P1⟩
 refine zA (zA (zB (wP rfl (wP rfl (wP rfl (wP rfl (wl_nil (zE ?_))))))))
 refine wc_cond rfl (fun h => ?_) (fun h => ?_)
 rotate_left
 ·have e : r = rs.length := by simp at h; omega
  subst e
  refine zJ (zK (zK (zL (zE (zA (zB (wP rfl (wl_nil (zE (zO ?_))))))))))
  have hc : crs rs = false := crs_noBad fun r' i s k h1 h2 h3 h4 h5 => P1 r' i s k h1 h1 h2 h3 h4 h5
  exact ne_ret1 tH rfl (.tmp rfl) () (by rw [hc]) trivial fun W _ => NewBx.nil _ _
 have hr : r < rs.length := by simp at h; omega
 clear h
 obtain ⟨b, off, rfl, hrow⟩ := hR.row hr
 obtain ⟨q, cap2, hq1, hq2⟩ := hrow r hr
 have hlr := hl _ (List.mem_of_getElem? (rg_get hr))
 refine zI (zE (zA (zH (zA (zB (wP rfl (wl_nil (zE (zH ?_)))))))))
 refine wc_loop (X := Nat) (fun i => [(0, slv (some ⟨b, off, none⟩) rs.length cap), (3, .int .i64 (r : Nat)), (4, .int .i64 (i : Nat))]) (fun _ => [])
  (fun i => i ≤ (rg rs r).length ∧ ∀ i' s k, i' < i → i' < (rg rs r).length → s < rs.length → k < (rg rs s).length → r ≤ s → badR rs r i' s k = false) (fun i => (rg rs r).length - i) 0 ⟨Nat.zero_le _, fun i' s k h => absurd h (Nat.not_lt_zero _)⟩ ⟨rfl, rfl, rfl, trivial⟩ [] rfl ?_
 rintro i ⟨hi, P2⟩
 refine zA (zA (zB (wP rfl (wP rfl (wP rfl ?_)))))
 refine wI rfl rfl (by omega) (by omega) ?_
 refine wl_load rfl rfl rfl rfl (fun W hp => RowAt.load 0 tH rfl ((fun W hp => hq1.hp hp) W hp) rfl) ?_
 refine wP rfl (wP rfl (wl_nil (zE ?_)))
 refine wc_cond rfl (fun h => ?_) (fun h => ?_)
 rotate_left
 ·have e : i = (rg rs r).length := by simp at h; omega
  subst e
  refine zJ (zK (zK (zL (zN (zE (zB (wP rfl (wP rfl (wP rfl (wl_nil ?_))))))))))
  refine ne_loop (r + 1) ⟨hr, fun r' i' s k h0 h1 h2 h3 h4 h5 => ?_⟩ (by omega) ⟨rfl, congrArg (fun z => some (Value.int .i64 z)) (wrap_id (x := (r : Int) + 1) (by omega) (by omega)), trivial⟩ [] rfl
  by_cases e : r' = r
  ·subst e; exact P2 i' s k h2 h2 h3 h4 h5
  ·exact P1 r' i' s k (by omega) h1 h2 h3 h4 h5
 have hi : i < (rg rs r).length := by simp at h; omega
 clear h
 refine zI (zE (zA (zH (zA (zB (wP rfl (wP rfl (wl_nil (zE (zH ?_))))))))))
 refine wc_loop (X := Nat) (fun s => [(0, slv (some ⟨b, off, none⟩) rs.length cap), (3, .int .i64 (r : Nat)), (4, .int .i64 (i : Nat)), (5, .int .i64 (s : Nat))]) (fun _ => [])
  (fun s => s ≤ rs.length ∧ r ≤ s ∧ ∀ s' k, s' < s → s' < rs.length → k < (rg rs s').length → r ≤ s' → badR rs r i s' k = false) (fun s => rs.length - s) r ⟨by omega, Nat.le_refl _, fun s' k h0 _ _ h5 => absurd h0 (by omega)⟩ ⟨rfl, rfl, rfl, rfl, trivial⟩ [] rfl ?_
 rintro s ⟨hs, hrs, P3⟩
 refine zA (zA (zB (wP rfl (wP rfl (wP rfl (wP rfl (wl_nil (zE ?_))))))))
 refine wc_cond rfl (fun h => ?_) (fun h => ?_)
 rotate_left
 ·have e : s = rs.length := by simp at h; omega
  subst e
  refine zJ (zK (zK (zL (zN (zE (zB (wP rfl (wP rfl (wP rfl (wl_nil ?_))))))))))
  refine ne_loop (i + 1) ⟨hi, fun i' s k h0 h2 h3 h4 h5 => ?_⟩ (by omega) ⟨rfl, rfl, congrArg (fun z => some (Value.int .i64 z)) (wrap_id (x := (i : Int) + 1) (by omega) (by omega)), trivial⟩ [] rfl
  by_cases e : i' = i
  ·subst e; exact P3 s k h3 h3 h4 h5
  ·exact P2 i' s k (by omega) h2 h3 h4 h5
 have hs : s < rs.length := by simp at h; omega
 clear h
 obtain ⟨q', cap3, hq3, hq4⟩ := hrow s hs
 have hls := hl _ (List.mem_of_getElem? (rg_get hs))
 refine zI (zE (zA (zH (zA (zB (wP rfl (wl_nil (zE (zH ?_)))))))))
 refine wc_loop (X := Nat) (fun k => [(0, slv (some ⟨b, off, none⟩) rs.length cap), (3, .int .i64 (r : Nat)), (4, .int .i64 (i : Nat)), (5, .int .i64 (s : Nat)), (6, .int .i64 (k : Nat))]) (fun _ => [])
  (fun k => k ≤ (rg rs s).length ∧ ∀ k', k' < k → badR rs r i s k' = false) (fun k => (rg rs s).length - k) 0 ⟨Nat.zero_le _, fun k' h => absurd h (Nat.not_lt_zero _)⟩ ⟨rfl, rfl, rfl, rfl, rfl, trivial⟩ [] rfl ?_
 rintro k ⟨hk, P4⟩
 refine zA (zA (zB (wP rfl (wP rfl (wP rfl ?_)))))
 refine wI rfl rfl (by omega) (by omega) ?_
 refine wl_load rfl rfl rfl rfl (fun W hp => RowAt.load 0 tH rfl ((fun W hp => hq3.hp hp) W hp) rfl) ?_
 refine wP rfl (wP rfl (wl_nil (zE ?_)))
 refine wc_cond rfl (fun h => ?_) (fun h => ?_)
 rotate_left
 ·have e : k = (rg rs s).length := by simp at h; omega
  subst e
  refine zJ (zK (zK (zL (zN (zE (zB (wP rfl (wP rfl (wP rfl (wl_nil ?_))))))))))
  refine ne_loop (s + 1) ⟨hs, by omega, fun s' k h0 h3 h4 h5 => ?_⟩ (by omega) ⟨rfl, rfl, rfl, congrArg (fun z => some (Value.int .i64 z)) (wrap_id (x := (s : Int) + 1) (by omega) (by omega)), trivial⟩ [] rfl
  by_cases e : s' = s
  ·subst e; exact P4 k h4
  ·exact P3 s' k (by omega) h3 h4 h5
 have hk : k < (rg rs s).length := by simp at h; omega
 clear h
 have fin : badR rs r i s k = false → ∀ k', k' < k + 1 → badR rs r i s k' = false := fun h k' hk' => by
  by_cases e : k' = k
  ·subst e; exact h
  ·exact P4 k' (by omega)
 have e1 : ∀ z : Int, z = (k : Int) + 1 → w64 z = ((k + 1 : Nat) : Int) := fun z h => by rw [h, w64_id (by omega) (by omega)]; omega
 -- the side is left out
 have skip : ((r == s) && (decide (k ≤ i) || (k == i + 1) || ((i == 0) && (k + 1 == (rg rs r).length)))) = true → badR rs r i s k = false := fun h => by unfold badR; rw [h]; rfl
 have test : ((r == s) && (decide (k ≤ i) || (k == i + 1) || ((i == 0) && (k + 1 == (rg rs r).length)))) = false → badR rs r i s k = meetB (sd (rg rs r) i) (sd (rg rs r) (nxt (rg rs r).length i)) (sd (rg rs s) k) (sd (rg rs s) (nxt (rg rs s).length k)) := fun h => by unfold badR; rw [h]; rfl
 obtain ⟨C1, c1⟩ : ∃ b, ((r : Int) == (s : Int)) = b := ⟨_, rfl⟩
 obtain ⟨C2, c2⟩ : ∃ b, decide ((k : Int) ≤ (i : Int)) = b := ⟨_, rfl⟩
 obtain ⟨C3, c3⟩ : ∃ b, ((k : Int) == w64 ((i : Int) + 1)) = b := ⟨_, rfl⟩
 obtain ⟨C4, c4⟩ : ∃ b, ((i : Int) == 0) = b := ⟨_, rfl⟩
 obtain ⟨C5, c5⟩ : ∃ b, ((k : Int) == w64 (((rg rs r).length : Nat) - 1)) = b := ⟨_, rfl⟩
 have hC : ((r == s) && (decide (k ≤ i) || (k == i + 1) || ((i == 0) && (k + 1 == (rg rs r).length)))) = (C1 && (C2 || C3 || (C4 && C5))) := by
  rw [w64_id (by omega) (by omega)] at c3 c5
  rw [← c1, ← c2, ← c3, ← c4, ← c5, natInt_beq]
  have a2 : decide (k ≤ i) = decide ((k : Int) ≤ (i : Int)) := by by_cases h : k ≤ i; rw [decide_eq_true h, decide_eq_true (by omega)]; rw [decide_eq_false h, decide_eq_false (by omega)]
  have a3 : (k == i + 1) = ((k : Int) == (i : Int) + 1) := by rw [Bool.eq_iff_iff, beq_iff_eq, beq_iff_eq]; omega
  have a4 : (i == 0) = ((i : Int) == 0) := by rw [Bool.eq_iff_iff, beq_iff_eq, beq_iff_eq]; omega
  have a5 : (k + 1 == (rg rs r).length) = ((k : Int) == ((rg rs r).length : Nat) - 1) := by rw [Bool.eq_iff_iff, beq_iff_eq, beq_iff_eq]; omega
  rw [a2, a3, a4, a5]
 refine zI (zE (zA (zH (zA (zB (wP rfl (wP rfl ?_)))))))
 refine wI rfl rfl (by omega) (by omega) ?_
 refine wl_load rfl rfl rfl rfl (fun W hp => RowAt.load 0 tH rfl ((fun W hp => hq1.hp hp) W hp) rfl) ?_
 refine wP rfl (wP rfl (wl_nil (zE (zA (zA (zB (wP rfl (wP rfl (wP rfl (wP rfl ?_))))))))))
 refine wl_part 47 rfl (fun h47 => ?_) (fun h47 => ?_)
 ·refine wP rfl (wP rfl (wP rfl (wP rfl ?_)))
  refine wl_part 51 rfl (fun h51 => ?_) (fun h51 => ?_)
  ·refine wl_skip rfl rfl ?_
   iterate 3 refine wl_skip rfl rfl ?_
   refine wP rfl (wP rfl ?_)
   iterate 8 refine wl_skip rfl rfl ?_
   refine wP rfl (wP rfl (wl_nil ?_))
   have e : (C1 && (C2 || C3 || (C4 && C5))) = true := by first | (rw [show C1 = true from c1.symm.trans h47, show C2 = true from c2.symm.trans h51]; rfl) | (rw [show C1 = true from c1.symm.trans h47, show C3 = true from c3.symm.trans h57]; cases C2 <;> rfl)
   refine zE (zR rfl (zJ (zK (zL (zE (zB (wP rfl (wP rfl (wP rfl (wl_nil ?_))))))))))
   exact ne_loop (k + 1) ⟨hk, fin (skip (hC.trans e))⟩ (by omega) ⟨rfl, rfl, rfl, rfl, congrArg (fun z => some (Value.int .i64 z)) (wrap_id (x := (k : Int) + 1) (by omega) (by omega)), trivial⟩ [] rfl
  ·refine wP rfl ?_
   iterate 5 refine wP rfl ?_
   refine wl_part 57 rfl (fun h57 => ?_) (fun h57 => ?_)
   ·refine wl_skip rfl rfl ?_
    iterate 7 refine wl_skip rfl rfl ?_
    refine wP rfl (wP rfl (wl_nil ?_))
    have e : (C1 && (C2 || C3 || (C4 && C5))) = true := by first | (rw [show C1 = true from c1.symm.trans h47, show C2 = true from c2.symm.trans h51]; rfl) | (rw [show C1 = true from c1.symm.trans h47, show C3 = true from c3.symm.trans h57]; cases C2 <;> rfl)
    refine zE (zR rfl (zJ (zK (zL (zE (zB (wP rfl (wP rfl (wP rfl (wl_nil ?_))))))))))
    exact ne_loop (k + 1) ⟨hk, fin (skip (hC.trans e))⟩ (by omega) ⟨rfl, rfl, rfl, rfl, congrArg (fun z => some (Value.int .i64 z)) (wrap_id (x := (k : Int) + 1) (by omega) (by omega)), trivial⟩ [] rfl
   ·refine wP rfl (wP rfl (wP rfl ?_))
    refine wl_part 60 rfl (fun h60 => ?_) (fun h60 => ?_)
    ·refine wP rfl ?_
     iterate 6 refine wP rfl ?_
     refine wl_nil (zE ?_)
     refine wc_cond rfl (fun hx => ?_) (fun hx => ?_)
     ·have e : (C1 && (C2 || C3 || (C4 && C5))) = true := by first | (rw [show C1 = true from c1.symm.trans h47, show C3 = true from c3.symm.trans h57]; cases C2 <;> rfl) | (rw [show C1 = true from c1.symm.trans h47, show C4 = true from c4.symm.trans h60, show C5 = true from c5.symm.trans hx]; cases C2 <;> cases C3 <;> rfl) | (rw [show C1 = true from c1.symm.trans h47, show C3 = true from c3.symm.trans hx]; cases C2 <;> rfl)
      refine zJ (zK (zL (zE (zB (wP rfl (wP rfl (wP rfl (wl_nil ?_))))))))
      exact ne_loop (k + 1) ⟨hk, fin (skip (hC.trans e))⟩ (by omega) ⟨rfl, rfl, rfl, rfl, congrArg (fun z => some (Value.int .i64 z)) (wrap_id (x := (k : Int) + 1) (by omega) (by omega)), trivial⟩ [] rfl
     ·have e : (C1 && (C2 || C3 || (C4 && C5))) = false := by first | (rw [show C2 = false from c2.symm.trans h51, show C3 = false from c3.symm.trans h57, show C5 = false from c5.symm.trans hx, Bool.and_false]; cases C1 <;> rfl)
      refine zI (zE (zA ?_))
      refine zT Tryz.mixed (by kernel_rfl) ?_
      refine qP rfl (qP rfl ?_)
      refine qI rfl rfl (by omega) (by omega) ?_
      refine wq_load rfl rfl rfl rfl (fun W hp => RowAt.load 0 tH rfl ((fun W hp => hq1.hp hp) W hp) rfl) ?_
      refine qP rfl (qP rfl (qP rfl ?_))
      refine qI rfl rfl (by omega) (by omega) ?_
      refine wq_load rfl rfl rfl rfl (fun W hp => RowAt.load 0 tH rfl ((fun W hp => hq3.hp hp) W hp) rfl) ?_
      refine qP rfl ?_
      refine wq_call1 rfl rfl rfl rfl rfl rfl (by kernel_rfl) (fun W hp => touch_gives W q q' cap2 cap3 (rg rs r) (rg rs s) i k hlr hls (hq2.hp hp) (hq4.hp hp) hi hk) ?_
      refine wq_nil (wl_nil (zE ?_))
      refine wc_cond rfl (fun h => ?_) (fun h => ?_)
      ·refine zA (zB (wP rfl (wl_nil (zE (zO (zQ (zP (zP (zQ (zQ (zP (zP (zQ (zQ ?_))))))))))))))
       refine zP (zP (zQ (zQ (zP (zP (zQ (zP ?_)))))))
       have hc : crs rs = true := badR_crs hr hi hs hk ((test (hC.trans e)).trans h)
       exact ne_ret1 tH rfl (.tmp rfl) () (by rw [hc]) trivial fun W _ => NewBx.nil _ _
      ·refine zI (zN (zE (zB (wP rfl (wP rfl (wP rfl (wl_nil ?_)))))))
       exact ne_loop (k + 1) ⟨hk, fin ((test (hC.trans e)).trans h)⟩ (by omega) ⟨rfl, rfl, rfl, rfl, congrArg (fun z => some (Value.int .i64 z)) (wrap_id (x := (k : Int) + 1) (by omega) (by omega)), trivial⟩ [] rfl
    ·refine wl_skip rfl rfl ?_
     iterate 3 refine wl_skip rfl rfl ?_
     refine wP rfl (wP rfl (wP rfl (wl_nil ?_)))
     have e : (C1 && (C2 || C3 || (C4 && C5))) = false := by first | (rw [show C1 = false from c1.symm.trans h47]; rfl) | (rw [show C2 = false from c2.symm.trans h51, show C3 = false from c3.symm.trans h57, show C4 = false from c4.symm.trans h60, Bool.false_and]; cases C1 <;> rfl)
     refine zE (zS rfl (zI (zE (zA ?_))))
     refine zT Tryz.mixed (by kernel_rfl) ?_
     refine qP rfl (qP rfl ?_)
     refine qI rfl rfl (by omega) (by omega) ?_
     refine wq_load rfl rfl rfl rfl (fun W hp => RowAt.load 0 tH rfl ((fun W hp => hq1.hp hp) W hp) rfl) ?_
     refine qP rfl (qP rfl (qP rfl ?_))
     refine qI rfl rfl (by omega) (by omega) ?_
     refine wq_load rfl rfl rfl rfl (fun W hp => RowAt.load 0 tH rfl ((fun W hp => hq3.hp hp) W hp) rfl) ?_
     refine qP rfl ?_
     refine wq_call1 rfl rfl rfl rfl rfl rfl (by kernel_rfl) (fun W hp => touch_gives W q q' cap2 cap3 (rg rs r) (rg rs s) i k hlr hls (hq2.hp hp) (hq4.hp hp) hi hk) ?_
     refine wq_nil (wl_nil (zE ?_))
     refine wc_cond rfl (fun h => ?_) (fun h => ?_)
     ·refine zA (zB (wP rfl (wl_nil (zE (zO (zQ (zP (zP (zQ (zQ (zP (zP (zQ (zQ ?_))))))))))))))
      refine zP (zP (zQ (zQ (zP (zP (zQ (zP ?_)))))))
      have hc : crs rs = true := badR_crs hr hi hs hk ((test (hC.trans e)).trans h)
      exact ne_ret1 tH rfl (.tmp rfl) () (by rw [hc]) trivial fun W _ => NewBx.nil _ _
     ·refine zI (zN (zE (zB (wP rfl (wP rfl (wP rfl (wl_nil ?_)))))))
      exact ne_loop (k + 1) ⟨hk, fin ((test (hC.trans e)).trans h)⟩ (by omega) ⟨rfl, rfl, rfl, rfl, congrArg (fun z => some (Value.int .i64 z)) (wrap_id (x := (k : Int) + 1) (by omega) (by omega)), trivial⟩ [] rfl
 ·refine wl_skip rfl rfl ?_
  iterate 18 refine wl_skip rfl rfl ?_
  refine wP rfl (wl_nil ?_)
  have e : (C1 && (C2 || C3 || (C4 && C5))) = false := by first | (rw [show C1 = false from c1.symm.trans h47]; rfl) | (rw [show C2 = false from c2.symm.trans h51, show C3 = false from c3.symm.trans h57, show C4 = false from c4.symm.trans h60, Bool.false_and]; cases C1 <;> rfl)
  refine zE (zS rfl (zI (zE (zA ?_))))
  refine zT Tryz.mixed (by kernel_rfl) ?_
  refine qP rfl (qP rfl ?_)
  refine qI rfl rfl (by omega) (by omega) ?_
  refine wq_load rfl rfl rfl rfl (fun W hp => RowAt.load 0 tH rfl ((fun W hp => hq1.hp hp) W hp) rfl) ?_
  refine qP rfl (qP rfl (qP rfl ?_))
  refine qI rfl rfl (by omega) (by omega) ?_
  refine wq_load rfl rfl rfl rfl (fun W hp => RowAt.load 0 tH rfl ((fun W hp => hq3.hp hp) W hp) rfl) ?_
  refine qP rfl ?_
  refine wq_call1 rfl rfl rfl rfl rfl rfl (by kernel_rfl) (fun W hp => touch_gives W q q' cap2 cap3 (rg rs r) (rg rs s) i k hlr hls (hq2.hp hp) (hq4.hp hp) hi hk) ?_
  refine wq_nil (wl_nil (zE ?_))
  refine wc_cond rfl (fun h => ?_) (fun h => ?_)
  ·refine zA (zB (wP rfl (wl_nil (zE (zO (zQ (zP (zP (zQ (zQ (zP (zP (zQ (zQ ?_))))))))))))))
   refine zP (zP (zQ (zQ (zP (zP (zQ (zP ?_)))))))
   have hc : crs rs = true := badR_crs hr hi hs hk ((test (hC.trans e)).trans h)
   exact ne_ret1 tH rfl (.tmp rfl) () (by rw [hc]) trivial fun W _ => NewBx.nil _ _
  ·refine zI (zN (zE (zB (wP rfl (wP rfl (wP rfl (wl_nil ?_)))))))
   exact ne_loop (k + 1) ⟨hk, fin ((test (hC.trans e)).trans h)⟩ (by omega) ⟨rfl, rfl, rfl, rfl, congrArg (fun z => some (Value.int .i64 z)) (wrap_id (x := (k : Int) + 1) (by omega) (by omega)), trivial⟩ [] rfl
-- BOXES 2
def plsR (rs : List (List Sd)) (r s : Nat) : Bool := (s == r) || (insR (rg rs s) (sd (rg rs r) 0).x (sd (rg rs r) 0).y (rg rs s).length == (s == 0))
def plrR (rs : List (List Sd)) (r : Nat) : Bool := (r == 0) || (!decide (twR (rg rs r) (rg rs r).length ≥ 0) && (List.range rs.length).all (plsR rs r))
def plcR (rs : List (List Sd)) : Bool := !decide (twR (rg rs 0) (rg rs 0).length ≤ 0) && (List.range rs.length).all (plrR rs)
set_option maxHeartbeats 8000000 in
theorem placedR_gives (W : World) (p : Option Addr) (cap : Nat) (rs : List (List Sd)) (hn : rs.length < 4611686018427387904) (hl : ∀ l ∈ rs, l.length < 4611686018427387904) (hne : ∀ l ∈ rs, l ≠ []) (h0 : 0 < rs.length) (hR : RingsP W p rs) :
  CallsR Tryz.prog 49 #[slv p rs.length cap] W (fun _ : Unit => .bool (plcR rs)) (fun _ => True) (fun _ => []) := by
 obtain ⟨b, off, rfl, hrow⟩ := hR.row h0
 obtain ⟨q0, cap0, hq1, hq2⟩ := hrow 0 h0
 refine calls_enter (args := [slv (some ⟨b, off, none⟩) rs.length cap]) Tryz.func49 rfl rfl rfl ?_
 refine zA (zB (wP rfl (wl_nil (zE (zA (zA (zB (wP rfl ?_))))))))
 refine wI rfl rfl (by omega) (by omega) ?_
 refine wl_load rfl rfl rfl rfl (fun W hp => RowAt.load 0 tH rfl ((fun W hp => hq1.hp hp) W hp) rfl) ?_
 refine wl_call1 rfl rfl rfl rfl rfl rfl (by kernel_rfl) (fun W hp => twice_gives W q0 cap0 (rg rs 0) (hl _ (List.mem_of_getElem? (rg_get h0))) (hq2.hp hp)) ?_
 refine wP rfl (wl_nil (zE ?_))
 refine wc_cond rfl (fun h => ?_) (fun h => ?_)
 ·refine zA (zB (wP rfl (wl_nil (zE (zO (zP ?_))))))
  have hf : plcR rs = false := by unfold plcR; rw [show decide (twR (rg rs 0) (rg rs 0).length ≤ 0) = true from h]; rfl
  exact ne_ret1 tH rfl (.tmp rfl) () (by rw [hf]) trivial fun W _ => NewBx.nil _ _
 have hA : decide (twR (rg rs 0) (rg rs 0).length ≤ 0) = false := h
 clear h
 refine zI (zE (zA (zA (zB (wP rfl (wl_nil (zE (zH ?_))))))))
 refine wc_loop (X := Nat) (fun r => [(0, slv (some ⟨b, off, none⟩) rs.length cap), (3, .int .i64 (r : Nat))]) (fun _ => []) (fun r => 1 ≤ r ∧ r ≤ rs.length ∧ ∀ j, j < r → plrR rs j = true) (fun r => rs.length - r) 1
  ⟨Nat.le_refl _, h0, fun j hj => by rw [show j = 0 by omega]; rfl⟩ ⟨rfl, rfl, trivial⟩ [] rfl ?_
 rintro r ⟨hr1, hr, hok⟩
 refine zA (zA (zB (wP rfl (wP rfl (wP rfl (wP rfl (wl_nil (zE ?_))))))))
 refine wc_cond rfl (fun h => ?_) (fun h => ?_)
 rotate_left
 ·have e : r = rs.length := by simp at h; omega
  subst e
  refine zJ (zK (zK (zL (zE (zA (zB (wP rfl (wl_nil (zE (zO ?_))))))))))
  have ht : plcR rs = true := by unfold plcR; rw [hA, List.all_eq_true.2 fun j hj => hok j (List.mem_range.1 hj)]; rfl
  exact ne_ret1 tH rfl (.tmp rfl) () (by rw [ht]) trivial fun W _ => NewBx.nil _ _
 have hr : r < rs.length := by simp at h; omega
 clear h
 obtain ⟨q, cap2, hq3, hq4⟩ := hrow r hr
 have hlr := hl _ (List.mem_of_getElem? (rg_get hr))
 have hner : 0 < (rg rs r).length := List.length_pos_iff.2 (hne _ (List.mem_of_getElem? (rg_get hr)))
 have hr0 : (r == 0) = false := beq_eq_false_iff_ne.2 (by omega)
 refine zI (zE (zA (zH (zA (zA (zB (wP rfl (wP rfl ?_))))))))
 refine wI rfl rfl (by omega) (by omega) ?_
 refine wl_load rfl rfl rfl rfl (fun W hp => RowAt.load 0 tH rfl ((fun W hp => hq3.hp hp) W hp) rfl) ?_
 refine wl_call1 rfl rfl rfl rfl rfl rfl (by kernel_rfl) (fun W hp => twice_gives W q cap2 (rg rs r) hlr (hq4.hp hp)) ?_
 refine wP rfl (wl_nil (zE ?_))
 refine wc_cond rfl (fun h => ?_) (fun h => ?_)
 ·refine zA (zB (wP rfl (wl_nil (zE (zO (zP (zQ (zP (zP (zQ (zP ?_)))))))))))
  have hf : plcR rs = false := by unfold plcR; rw [all_range_false hr (by unfold plrR; rw [hr0, show decide (twR (rg rs r) (rg rs r).length ≥ 0) = true from h]; rfl), Bool.and_false]
  exact ne_ret1 tH rfl (.tmp rfl) () (by rw [hf]) trivial fun W _ => NewBx.nil _ _
 have hB : decide (twR (rg rs r) (rg rs r).length ≥ 0) = false := h
 clear h
 refine zI (zE (zA (zB (wP rfl (wl_nil (zE (zH ?_)))))))
 refine wc_loop (X := Nat) (fun s => [(0, slv (some ⟨b, off, none⟩) rs.length cap), (3, .int .i64 (r : Nat)), (4, .int .i64 (s : Nat))]) (fun _ => []) (fun s => s ≤ rs.length ∧ ∀ j, j < s → plsR rs r j = true) (fun s => rs.length - s) 0
  ⟨Nat.zero_le _, fun j hj => absurd hj (Nat.not_lt_zero _)⟩ ⟨rfl, rfl, rfl, trivial⟩ [] rfl ?_
 rintro s ⟨hs, hoks⟩
 refine zA (zA (zB (wP rfl (wP rfl (wP rfl (wP rfl (wl_nil (zE ?_))))))))
 refine wc_cond rfl (fun h => ?_) (fun h => ?_)
 rotate_left
 ·have e : s = rs.length := by simp at h; omega
  subst e
  refine zJ (zK (zK (zL (zN (zE (zB (wP rfl (wP rfl (wP rfl (wl_nil ?_))))))))))
  refine ne_loop (r + 1) ⟨by omega, hr, fun j hj => ?_⟩ (by omega) ⟨rfl, congrArg (fun z => some (Value.int .i64 z)) (wrap_id (x := (r : Int) + 1) (by omega) (by omega)), trivial⟩ [] rfl
  by_cases e : j = r
  ·subst e
   unfold plrR
   rw [hB, List.all_eq_true.2 fun m hm => hoks m (List.mem_range.1 hm), hr0]; rfl
  ·exact hok j (by omega)
 have hs : s < rs.length := by simp at h; omega
 clear h
 obtain ⟨q', cap3, hq5, hq6⟩ := hrow s hs
 have hls := hl _ (List.mem_of_getElem? (rg_get hs))
 have next : plsR rs r s = true → ∀ j, j < s + 1 → plsR rs r j = true := fun h j hj => by
  by_cases e : j = s
  ·subst e; exact h
  ·exact hoks j (by omega)
 obtain ⟨b3, off3, rfl, hrow3⟩ := hq4.row hner
 refine zI (zE (zA (zH (zA ?_))))
 refine zT Tryz.mixed (by kernel_rfl) ?_
 refine qP rfl (qP rfl (qP rfl (qP rfl ?_)))
 refine wq_part 31 rfl (fun h31 => ?_) (fun h31 => ?_)
 ·refine qP rfl (qP rfl ?_)
  refine qI rfl rfl (by omega) (by omega) ?_
  refine wq_load rfl rfl rfl rfl (fun W hp => RowAt.load 0 tH rfl ((fun W hp => hq5.hp hp) W hp) rfl) ?_
  refine qP rfl (qP rfl ?_)
  refine qI rfl rfl (by omega) (by omega) ?_
  refine wq_load rfl rfl rfl rfl (fun W hp => RowAt.load 0 tH rfl ((fun W hp => hq3.hp hp) W hp) rfl) ?_
  refine qI rfl rfl (by omega) (by omega) ?_
  refine qP rfl ?_
  refine wq_load rfl rfl rfl rfl (fun W hp => RowAt.load 0 tH rfl ((fun W hp => (hrow3 0 hner).hp hp) W hp) rfl) ?_
  refine qP rfl (qP rfl ?_)
  refine qI rfl rfl (by omega) (by omega) ?_
  refine wq_load rfl rfl rfl rfl (fun W hp => RowAt.load 0 tH rfl ((fun W hp => hq3.hp hp) W hp) rfl) ?_
  refine qI rfl rfl (by omega) (by omega) ?_
  refine qP rfl ?_
  refine wq_load rfl rfl rfl rfl (fun W hp => RowAt.load 1 tH rfl ((fun W hp => (hrow3 0 hner).hp hp) W hp) rfl) ?_
  refine wq_call1 rfl rfl rfl rfl rfl rfl (by kernel_rfl) (fun W hp => insideR_gives W q' cap3 (rg rs s) _ _ hls (hq6.hp hp)) ?_
  refine qP rfl (qP rfl ?_)
  refine wq_eqB Tryz.underlying4 rfl rfl rfl rfl rfl rfl ?_
  refine qP rfl (wq_nil (wl_nil ?_))
  have e : (s == r) = false := by have h' : ((s : Int) != (r : Int)) = true := h31; rw [bne_iff_ne] at h'; rw [beq_eq_false_iff_ne]; omega
  refine zE ?_
  refine wc_cond rfl (fun h => ?_) (fun h => ?_)
  ·refine zA (zB (wP rfl (wl_nil (zE (zO (zQ (zP (zP (zQ (zQ (zP (zP (zQ ?_)))))))))))))
   refine zP ?_
   have h' : (insR (rg rs s) (sd (rg rs r) 0).x (sd (rg rs r) 0).y (rg rs s).length == (s == 0)) = false := by
    rw [← natInt_beq s 0]
    have h2 : (!(insR (rg rs s) (sd (rg rs r) 0).x (sd (rg rs r) 0).y (rg rs s).length == ((s : Int) == 0))) = true := h
    simpa using h2
   have hf : plcR rs = false := by unfold plcR; rw [all_range_false hr (by unfold plrR; rw [hr0, all_range_false hs (by unfold plsR; rw [e, h']; rfl), Bool.and_false]; rfl), Bool.and_false]
   exact ne_ret1 tH rfl (.tmp rfl) () (by rw [hf]) trivial fun W _ => NewBx.nil _ _
  ·have h' : (insR (rg rs s) (sd (rg rs r) 0).x (sd (rg rs r) 0).y (rg rs s).length == (s == 0)) = true := by
    rw [← natInt_beq s 0]
    have h2 : (!(insR (rg rs s) (sd (rg rs r) 0).x (sd (rg rs r) 0).y (rg rs s).length == ((s : Int) == 0))) = false := h
    simpa using h2
   refine zI (zN (zE (zB (wP rfl (wP rfl (wP rfl (wl_nil ?_)))))))
   exact ne_loop (s + 1) ⟨hs, next (by unfold plsR; rw [h', Bool.or_true])⟩ (by omega) ⟨rfl, rfl, congrArg (fun z => some (Value.int .i64 z)) (wrap_id (x := (s : Int) + 1) (by omega) (by omega)), trivial⟩ [] rfl
 ·refine wq_skip rfl rfl ?_
  iterate 21 refine wq_skip rfl rfl ?_
  refine qP rfl (wq_nil (wl_nil ?_))
  have e : (s == r) = true := by have h' : ((s : Int) != (r : Int)) = false := h31; rw [bne_eq_false_iff_eq] at h'; rw [beq_iff_eq]; omega
  refine zE (zS rfl (zI (zN (zE (zB (wP rfl (wP rfl (wP rfl (wl_nil ?_)))))))))
  exact ne_loop (s + 1) ⟨hs, next (by unfold plsR; rw [e]; rfl)⟩ (by omega) ⟨rfl, rfl, congrArg (fun z => some (Value.int .i64 z)) (wrap_id (x := (s : Int) + 1) (by omega) (by omega)), trivial⟩ [] rfl
def refS (l : List Sd) (k : Nat) : Bool := !(decide (trnR l k < 0) && ((sd l (prv l.length k)).gable || (sd l k).gable || ((sd l (prv l.length k)).plate != (sd l k).plate)))
def jndR (rs : List (List Sd)) : Bool := rs.all (fun l => (List.range l.length).all (refS l)) && someRs rs rs.length
set_option maxHeartbeats 8000000 in
theorem reflex_gives (W : World) (p : Option Addr) (cap : Nat) (rs : List (List Sd)) (hn : rs.length < 4611686018427387904) (hl : ∀ l ∈ rs, l.length < 4611686018427387904) (hR : RingsP W p rs) :
  CallsR Tryz.prog 50 #[slv p rs.length cap] W (fun _ : Unit => .bool (jndR rs)) (fun _ => True) (fun _ => []) := by
 refine calls_enter (args := [slv p rs.length cap]) Tryz.func50 rfl rfl rfl ?_
 refine zA (zB (wP rfl (wl_nil (zE (zA (zB (wP rfl (wl_nil (zE (zA (zA (zB (wP rfl ?_)))))))))))))
 refine wl_nil (zE (zH ?_))
 refine wc_loop (X := Nat) (fun r => [(0, slv p rs.length cap), (3, .bool (someRs rs r)), (4, .int .i64 (r : Nat))]) (fun _ => []) (fun r => r ≤ rs.length ∧ ∀ j, j < r → (List.range (rg rs j).length).all (refS (rg rs j)) = true) (fun r => rs.length - r) 0
  ⟨Nat.zero_le _, fun j hj => absurd hj (Nat.not_lt_zero _)⟩ ⟨rfl, rfl, rfl, trivial⟩ [] rfl ?_
 rintro r ⟨hr, hok⟩
 refine zA (zA (zB (wP rfl (wP rfl (wP rfl (wP rfl (wl_nil (zE ?_))))))))
 refine wc_cond rfl (fun h => ?_) (fun h => ?_)
 rotate_left
 ·have e : r = rs.length := by simp at h; omega
  subst e
  refine zJ (zK (zK (zL (zE (zA (zB (wP rfl (wP rfl (wl_nil (zE (zO ?_)))))))))))
  have ht : jndR rs = someRs rs rs.length := by
   unfold jndR
   rw [List.all_eq_true.2 fun l hl => ?_, Bool.true_and]
   obtain ⟨j, hj, e⟩ := List.getElem_of_mem hl
   have := hok j hj
   rw [show rg rs j = l by simp [rg, hj, e]] at this
   exact this
  exact ne_ret1 tH rfl (.tmp rfl) () (by rw [ht]) trivial fun W _ => NewBx.nil _ _
 have hr : r < rs.length := by simp at h; omega
 clear h
 obtain ⟨b, off, rfl, hrow⟩ := hR.row hr
 obtain ⟨q, cap2, hq1, hq2⟩ := hrow r hr
 have hlr := hl _ (List.mem_of_getElem? (rg_get hr))
 refine zI (zE (zA (zH (zA (zB (wP rfl (wP rfl ?_)))))))
 refine wI rfl rfl (by omega) (by omega) ?_
 refine wl_load rfl rfl rfl rfl (fun W hp => RowAt.load 0 tH rfl ((fun W hp => hq1.hp hp) W hp) rfl) ?_
 refine wP rfl (wl_nil (zE (zA (zB (wP rfl (wl_nil (zE (zH ?_))))))))
 refine wc_loop (X := Nat) (fun i => [(0, slv (some ⟨b, off, none⟩) rs.length cap), (3, .bool (someUp (rg rs r) (someRs rs r) i)), (4, .int .i64 (r : Nat)), (5, slv q (rg rs r).length cap2), (6, .int .i64 (i : Nat))]) (fun _ => []) (fun i => i ≤ (rg rs r).length ∧ ∀ j, j < i → refS (rg rs r) j = true) (fun i => (rg rs r).length - i) 0
  ⟨Nat.zero_le _, fun j hj => absurd hj (Nat.not_lt_zero _)⟩ ⟨rfl, rfl, rfl, rfl, rfl, trivial⟩ [] rfl ?_
 rintro i ⟨hi, hoki⟩
 refine zA (zA (zB (wP rfl (wP rfl (wP rfl (wP rfl (wl_nil (zE ?_))))))))
 refine wc_cond rfl (fun h => ?_) (fun h => ?_)
 rotate_left
 ·have e : i = (rg rs r).length := by simp at h; omega
  subst e
  refine zJ (zK (zK (zL (zN (zE (zB (wP rfl (wP rfl (wP rfl (wl_nil ?_))))))))))
  refine ne_loop (r + 1) ⟨hr, fun j hj => ?_⟩ (by omega) ⟨rfl, rfl, congrArg (fun z => some (Value.int .i64 z)) (wrap_id (x := (r : Int) + 1) (by omega) (by omega)), trivial⟩ [] rfl
  by_cases e : j = r
  ·subst e; exact List.all_eq_true.2 fun m hm => hoki m (List.mem_range.1 hm)
  ·exact hok j (by omega)
 have hi : i < (rg rs r).length := by simp at h; omega
 clear h
 have hi2 := prv_lt hi
 obtain ⟨b3, off3, rfl, hrow3⟩ := hq2.row hi
 have bad : refS (rg rs r) i = false → jndR rs = false := fun h => by
  unfold jndR
  have : rs.all (fun l => (List.range l.length).all (refS l)) = false := Bool.eq_false_iff.2 fun e => by
   have := List.all_eq_true.1 e _ (List.mem_of_getElem? (rg_get hr))
   rw [all_range_false hi h] at this; cases this
  rw [this]; rfl
 have good : refS (rg rs r) i = true → ∀ j, j < i + 1 → refS (rg rs r) j = true := fun h j hj => by
  by_cases e : j = i
  ·subst e; exact h
  ·exact hoki j (by omega)
 refine zI (zE (wc_seq (wc_block ?_)))
 repeat refine wc_seq ?_
 refine wc_lateS (X := Nat × Nat) (fun y => [(0, slv (some ⟨b, off, none⟩) rs.length cap), (3, .bool (someUp (rg rs r) (someRs rs r) i)), (4, .int .i64 (r : Nat)), (5, slv (some ⟨b3, off3, none⟩) (rg rs r).length cap2), (6, .int .i64 (i : Nat)), (7, .pointer (some ⟨y.1, 0, none⟩)), (8, .pointer (some ⟨y.2, 0, none⟩))])
  (fun y => [⟨y.1, 42, (sd (rg rs r) (prv (rg rs r).length i)).cells, true, none⟩, ⟨y.2, 42, (sd (rg rs r) i).cells, true, none⟩]) 4 Tryz.mixed (by kernel_rfl) ?_ ?_
 ·refine qP rfl ?_
  iterate 5 refine qP rfl ?_
  refine wq_upd 30 (.int .i64 ((i + (rg rs r).length - 1 : Nat) : Int)) rfl (congrArg (Value.int .i64) (show w64 (w64 ((i : Nat) + ((rg rs r).length : Nat)) - 1) = ((i + (rg rs r).length - 1 : Nat) : Int) by rw [w64_id (x := (i : Nat) + ((rg rs r).length : Nat)) (by omega) (by omega), w64_id (by omega) (by omega)]; omega)) ?_
  refine qP rfl (qP rfl ?_)
  refine wq_rem rfl rfl rfl rfl rfl (by omega) ?_
  refine wq_upd 33 (.int .i64 (prv (rg rs r).length i : Nat)) rfl (congrArg (Value.int .i64) (show Int.tmod ((i + (rg rs r).length - 1 : Nat) : Int) ((rg rs r).length : Nat) = (prv (rg rs r).length i : Nat) from (Int.ofNat_tmod _ _).symm)) ?_
  refine qI rfl rfl (by omega) (by omega) ?_
  refine wq_load rfl rfl rfl rfl (fun W hp => RowAt.load 0 tH rfl ((fun W hp => (hrow3 _ hi2).hp hp) W hp) rfl) ?_
  refine qP rfl (qP rfl ?_)
  refine qI rfl rfl (by omega) (by omega) ?_
  refine wq_load rfl rfl rfl rfl (fun W hp => RowAt.load 0 tH rfl ((fun W hp => (hrow3 i hi).hp hp) W hp) rfl) ?_
  refine wq_wt ?_
  refine wt_step rfl rfl (by ((repeat (first | refine Weak.same ?_ | refine Weak.off rfl ?_)); exact trivial)) ?_
  refine RS.cons ?_ (RS.cons ?_ (RS.nil))
  ·refine wl_allocZ Tryz.hZ rfl rfl rfl rfl ?_; intro b7
   refine wl_nil (ne_wt ?_)
   refine wt_step rfl rfl (by ((repeat (first | refine Weak.same ?_ | refine Weak.off rfl ?_)); exact trivial)) ?_
   refine RS.cons ?_ (RS.nil)
   refine wl_allocZ Tryz.hZ rfl rfl rfl rfl ?_; intro b8
   refine wl_nil (ne_wt ?_)
   refine wt_step rfl rfl (by ((repeat (first | refine Weak.same ?_ | refine Weak.off rfl ?_)); exact trivial)) ?_
   refine RS.cons ?_ (RS.nil)
   refine wS 0 rfl rfl rfl (wl_nil (ne_wt ?_))
   refine wt_step rfl rfl (by ((repeat (first | refine Weak.same ?_ | refine Weak.off rfl ?_)); exact trivial)) ?_
   refine RS.cons ?_ (RS.nil)
   refine wS 1 rfl rfl rfl (wl_nil (ne_wt ?_))
   (first | refine wt_done rfl (by ((repeat (first | refine Weak.same ?_ | refine Weak.off rfl ?_)); exact trivial)) ?_ | refine wt_doneF rfl (by kernel_rfl) ?_); (first | exact ne_late (b7, b8) ⟨rfl, rfl, rfl, rfl, rfl, rfl, rfl, trivial⟩ [0, 1] (by decide) rfl | exact ne_late (b7, b8) ⟨rfl, rfl, rfl, rfl, rfl, rfl, rfl, trivial⟩ [1, 0] (by decide) rfl)
  ·refine wl_allocZ Tryz.hZ rfl rfl rfl rfl ?_; intro b8
   refine wl_nil (ne_wt ?_)
   refine wt_step rfl rfl (by ((repeat (first | refine Weak.same ?_ | refine Weak.off rfl ?_)); exact trivial)) ?_
   refine RS.cons ?_ (RS.nil)
   refine wl_allocZ Tryz.hZ rfl rfl rfl rfl ?_; intro b7
   refine wl_nil (ne_wt ?_)
   refine wt_step rfl rfl (by ((repeat (first | refine Weak.same ?_ | refine Weak.off rfl ?_)); exact trivial)) ?_
   refine RS.cons ?_ (RS.nil)
   refine wS 1 rfl rfl rfl (wl_nil (ne_wt ?_))
   refine wt_step rfl rfl (by ((repeat (first | refine Weak.same ?_ | refine Weak.off rfl ?_)); exact trivial)) ?_
   refine RS.cons ?_ (RS.nil)
   refine wS 0 rfl rfl rfl (wl_nil (ne_wt ?_))
   (first | refine wt_done rfl (by ((repeat (first | refine Weak.same ?_ | refine Weak.off rfl ?_)); exact trivial)) ?_ | refine wt_doneF rfl (by kernel_rfl) ?_); (first | exact ne_late (b7, b8) ⟨rfl, rfl, rfl, rfl, rfl, rfl, rfl, trivial⟩ [0, 1] (by decide) rfl | exact ne_late (b7, b8) ⟨rfl, rfl, rfl, rfl, rfl, rfl, rfl, trivial⟩ [1, 0] (by decide) rfl)
 rintro ⟨b7, b8⟩
 obtain ⟨C1, c1⟩ : ∃ b, decide (trnR (rg rs r) i < 0) = b := ⟨_, rfl⟩
 obtain ⟨C4, c4⟩ : ∃ b, ((sd (rg rs r) (prv (rg rs r).length i)).plate != (sd (rg rs r) i).plate) = b := ⟨_, rfl⟩
 have hC : refS (rg rs r) i = !(C1 && ((sd (rg rs r) (prv (rg rs r).length i)).gable || (sd (rg rs r) i).gable || C4)) := by unfold refS; rw [c1, c4]
 refine zE (zA (zA (zB (wP rfl (wP rfl ?_)))))
 refine wl_call1 rfl rfl rfl rfl rfl rfl (by kernel_rfl) (fun W hp => turn_gives W _ cap2 (rg rs r) i hlr (hq2.hp hp) hi) ?_
 refine wP rfl (wP rfl ?_)
 refine wl_part 44 rfl (fun h44 => ?_) (fun h44 => ?_)
 ·refine wP rfl (wB 0 rfl rfl rfl (wP rfl ?_))
  refine wl_part 47 rfl (fun h47 => ?_) (fun h47 => ?_)
  ·refine wl_skip rfl rfl ?_
   refine wl_skip rfl rfl ?_
   refine wP rfl (wP rfl ?_)
   iterate 5 refine wl_skip rfl rfl ?_
   refine wP rfl (wP rfl (wl_nil ?_))
   have e : refS (rg rs r) i = false := by
    rw [hC, show C1 = true from c1.symm.trans h44]
    first
    | (rw [show (sd (rg rs r) (prv (rg rs r).length i)).gable = true from h47]; rfl)
    | (rw [show (sd (rg rs r) i).gable = true from h51]; cases (sd (rg rs r) (prv (rg rs r).length i)).gable <;> rfl)
   refine zE (zR rfl (zA (zB (wP rfl (wl_nil (zE (zO (zP (zQ (zP (zP (zQ (zQ ?_)))))))))))))
   refine zP (zP (zQ (zP ?_)))
   exact ne_ret1 tH rfl (.tmp rfl) () (by rw [bad e]) trivial fun W _ => NewBx.nil _ _
  ·refine wP rfl (wB 1 rfl rfl rfl (wP rfl (wP rfl ?_)))
   refine wl_part 51 rfl (fun h51 => ?_) (fun h51 => ?_)
   ·refine wl_skip rfl rfl ?_
    iterate 4 refine wl_skip rfl rfl ?_
    refine wP rfl (wP rfl (wl_nil ?_))
    have e : refS (rg rs r) i = false := by
     rw [hC, show C1 = true from c1.symm.trans h44]
     first
     | (rw [show (sd (rg rs r) (prv (rg rs r).length i)).gable = true from h47]; rfl)
     | (rw [show (sd (rg rs r) i).gable = true from h51]; cases (sd (rg rs r) (prv (rg rs r).length i)).gable <;> rfl)
    refine zE (zR rfl (zA (zB (wP rfl (wl_nil (zE (zO (zP (zQ (zP (zP (zQ (zQ ?_)))))))))))))
    refine zP (zP (zQ (zP ?_)))
    exact ne_ret1 tH rfl (.tmp rfl) () (by rw [bad e]) trivial fun W _ => NewBx.nil _ _
   ·refine wP rfl (wB 0 rfl rfl rfl (wP rfl (wB 1 rfl rfl rfl (wP rfl (wP rfl (wP rfl (wl_nil (zE ?_))))))))
    refine wc_cond rfl (fun hx => ?_) (fun hx => ?_)
    ·have e : refS (rg rs r) i = false := by
      rw [hC, show C1 = true from c1.symm.trans h44, show C4 = true from c4.symm.trans hx]
      cases (sd (rg rs r) (prv (rg rs r).length i)).gable <;> cases (sd (rg rs r) i).gable <;> rfl
     refine zA (zB (wP rfl (wl_nil (zE (zO (zP (zQ (zP (zP (zQ (zQ (zP (zP ?_)))))))))))))
     refine zQ (zP ?_)
     exact ne_ret1 tH rfl (.tmp rfl) () (by rw [bad e]) trivial fun W _ => NewBx.nil _ _
    ·have e : refS (rg rs r) i = true := by
      rw [hC, show (sd (rg rs r) (prv (rg rs r).length i)).gable = false from h47]
      rw [show (sd (rg rs r) i).gable = false from h51, show C4 = false from c4.symm.trans hx]
      cases C1 <;> rfl
     refine zI (zE (zB (wP rfl (wP rfl ?_))))
     refine wl_part 60 rfl (fun h60 => ?_) (fun h60 => ?_)
     ·refine wl_skip rfl rfl ?_
      iterate 2 refine wl_skip rfl rfl ?_
      refine wP rfl (wP rfl (wl_nil (zN (zE (zB (wP rfl (wP rfl (wP rfl (wl_nil ?_)))))))))
      exact ne_loop (i + 1) ⟨hi, good e⟩ (by omega) ⟨rfl, congrArg (fun z => some (Value.bool z)) (show _ = (someUp (rg rs r) (someRs rs r) i || !(sd (rg rs r) i).gable) by first | (rw [show someUp (rg rs r) (someRs rs r) i = true from h60]; rfl) | (rw [show someUp (rg rs r) (someRs rs r) i = false from h60]; rfl)), rfl, rfl, congrArg (fun z => some (Value.int .i64 z)) (wrap_id (x := (i : Int) + 1) (by omega) (by omega)), trivial⟩ [_, _] rfl
     ·refine wP rfl (wB 1 rfl rfl rfl (wP rfl (wP rfl (wP rfl (wl_nil (zN (zE (zB (wP rfl (wP rfl (wP rfl (wl_nil ?_))))))))))))
      exact ne_loop (i + 1) ⟨hi, good e⟩ (by omega) ⟨rfl, congrArg (fun z => some (Value.bool z)) (show _ = (someUp (rg rs r) (someRs rs r) i || !(sd (rg rs r) i).gable) by first | (rw [show someUp (rg rs r) (someRs rs r) i = true from h60]; rfl) | (rw [show someUp (rg rs r) (someRs rs r) i = false from h60]; rfl)), rfl, rfl, congrArg (fun z => some (Value.int .i64 z)) (wrap_id (x := (i : Int) + 1) (by omega) (by omega)), trivial⟩ [_, _] rfl
 ·refine wl_skip rfl rfl ?_
  iterate 12 refine wl_skip rfl rfl ?_
  refine wP rfl (wl_nil ?_)
  have e : refS (rg rs r) i = true := by rw [hC, show C1 = false from c1.symm.trans h44]; rfl
  refine zE (zS rfl (zI (zE (zB (wP rfl (wP rfl ?_))))))
  refine wl_part 60 rfl (fun h60 => ?_) (fun h60 => ?_)
  ·refine wl_skip rfl rfl ?_
   iterate 2 refine wl_skip rfl rfl ?_
   refine wP rfl (wP rfl (wl_nil (zN (zE (zB (wP rfl (wP rfl (wP rfl (wl_nil ?_)))))))))
   exact ne_loop (i + 1) ⟨hi, good e⟩ (by omega) ⟨rfl, congrArg (fun z => some (Value.bool z)) (show _ = (someUp (rg rs r) (someRs rs r) i || !(sd (rg rs r) i).gable) by first | (rw [show someUp (rg rs r) (someRs rs r) i = true from h60]; rfl) | (rw [show someUp (rg rs r) (someRs rs r) i = false from h60]; rfl)), rfl, rfl, congrArg (fun z => some (Value.int .i64 z)) (wrap_id (x := (i : Int) + 1) (by omega) (by omega)), trivial⟩ [_, _] rfl
  ·refine wP rfl (wB 1 rfl rfl rfl (wP rfl (wP rfl (wP rfl (wl_nil (zN (zE (zB (wP rfl (wP rfl (wP rfl (wl_nil ?_))))))))))))
   exact ne_loop (i + 1) ⟨hi, good e⟩ (by omega) ⟨rfl, congrArg (fun z => some (Value.bool z)) (show _ = (someUp (rg rs r) (someRs rs r) i || !(sd (rg rs r) i).gable) by first | (rw [show someUp (rg rs r) (someRs rs r) i = true from h60]; rfl) | (rw [show someUp (rg rs r) (someRs rs r) i = false from h60]; rfl)), rfl, rfl, congrArg (fun z => some (Value.int .i64 z)) (wrap_id (x := (i : Int) + 1) (by omega) (by omega)), trivial⟩ [_, _] rfl
-- BOXES 1
def chkR (rs : List (List Sd)) : Int :=
 if rs.any (fun l => l.length == 0) = true then 5
 else if tot rs = 0 then 5
 else if tot rs > 24 then 4
 else if rs.flatten.any (fun s => !rgd s) = true then 2
 else if rs.any (fun l => !shpR l) = true then 14
 else if crs rs = true then 15
 else if (!plcR rs || !jndR rs) = true then 14
 else 0
set_option maxHeartbeats 8000000 in
theorem checkR_gives (W : World) (p : Option Addr) (cap : Nat) (rs : List (List Sd)) (hn : rs.length < 4611686018427387904) (hT : tot rs < 1099511627776) (hR : RingsP W p rs) :
  CallsR Tryz.prog 12 #[planV p rs.length cap] W (fun _ : Unit => .int .i64 (chkR rs)) (fun _ => True) (fun _ => []) := by
 have hl : ∀ l ∈ rs, l.length < 4611686018427387904 := fun l h => by have := len_le_tot h; omega
 refine calls_enter (args := [planV p rs.length cap]) Tryz.func12 rfl rfl rfl ?_
 refine zA (zB ?_)
 (refine wl_box rfl rfl rfl rfl ?_; intro)
 refine wP rfl (wl_nil ?_)
 rename_i b1
 refine zE (zA (zA (zB (wP rfl (wB 0 rfl rfl rfl (wP rfl (wP rfl (wl_nil (zE ?_)))))))))
 refine wc_cond rfl (fun h => ?_) (fun h => ?_)
 ·refine zA (zB (wP rfl (wl_nil (zE (zO (zP ?_))))))
  have h0 : rs = [] := by have h' : (((rs.length : Nat) : Int) == 0) = true := h; rw [beq_iff_eq] at h'; exact List.length_eq_zero_iff.1 (by omega)
  exact ne_ret1 tH rfl (.tmp rfl) () (by subst h0; rfl) trivial fun W _ => NewBx.nil _ _
 have hpos : 0 < rs.length := by have h' : (((rs.length : Nat) : Int) == 0) = false := h; rw [beq_eq_false_iff_ne] at h'; omega
 clear h
 obtain ⟨b, off, rfl, hrow⟩ := hR.row hpos
 refine zI (zE (zA (zB (wP rfl (wl_nil (zE (zA (zA (zB (wP rfl (wl_nil (zE (zH ?_)))))))))))))
 refine wc_loop (X := Nat) (fun k => [(1, .pointer (some ⟨b1, 0, none⟩)), (3, .int .i64 (tot (rs.take k) : Nat)), (4, .int .i64 (k : Nat))]) (fun _ => [⟨b1, 24, [slv (some ⟨b, off, none⟩) rs.length cap], true, none⟩])
  (fun k => k ≤ rs.length ∧ ∀ j, j < k → (rg rs j).length ≠ 0) (fun k => rs.length - k) 0 ⟨Nat.zero_le _, fun j hj => absurd hj (Nat.not_lt_zero _)⟩ ⟨rfl, rfl, rfl, trivial⟩ [] rfl ?_
 rintro k ⟨hk, hok⟩
 refine zA (zA (zB (wP rfl (wP rfl (wB 0 rfl rfl rfl (wP rfl (wP rfl (wl_nil (zE ?_)))))))))
 refine wc_cond rfl (fun h => ?_) (fun h => ?_)
 ·have hk : k < rs.length := by simp at h; omega
  clear h
  obtain ⟨q, cap2, hq1, hq2⟩ := hrow k hk
  refine zI (zE (zA (zH (zA (zA (zB (wP rfl (wB 0 rfl rfl rfl (wP rfl ?_)))))))))
  refine wI rfl rfl (by omega) (by omega) ?_
  refine wl_load rfl rfl rfl rfl (fun W hp => RowAt.load 0 tH rfl ((fun W hp => hq1.hp hp) W hp) rfl) ?_
  refine wP rfl (wP rfl (wl_nil (zE ?_)))
  refine wc_cond rfl (fun h => ?_) (fun h => ?_)
  ·refine zA (zB (wP rfl (wl_nil (zE (zO (zP (zQ (zP (zP (zQ (zP ?_)))))))))))
   have he : rs.any (fun l => l.length == 0) = true := List.any_eq_true.2 ⟨_, List.mem_of_getElem? (rg_get hk), by have h' : ((((rg rs k).length : Nat) : Int) == 0) = true := h; rw [beq_iff_eq] at h' ⊢; omega⟩
   exact ne_ret1 tH rfl (.tmp rfl) () (by unfold chkR; rw [if_pos he]) trivial fun W _ => NewBx.nil _ _
  have hz : (rg rs k).length ≠ 0 := by
   have h' : ((((rg rs k).length : Nat) : Int) == 0) = false := h
   rw [beq_eq_false_iff_ne] at h'; omega
  clear h
  refine zI (zE (zB (wP rfl (wP rfl (wB 0 rfl rfl rfl (wP rfl ?_))))))
  refine wI rfl rfl (by omega) (by omega) ?_
  refine wl_load rfl rfl rfl rfl (fun W hp => RowAt.load 0 tH rfl ((fun W hp => hq1.hp hp) W hp) rfl) ?_
  refine wP rfl (wP rfl (wP rfl (wl_nil ?_)))
  have hs : w64 ((tot (rs.take k) : Nat) + ((rg rs k).length : Nat)) = (tot (rs.take (k + 1)) : Nat) := by
   have h1 := tot_take_succ hk
   have h2 := tot_take_le rs (k + 1)
   rw [w64_id (by omega) (by omega)]; omega
  refine zN (zE (zB ?_))
  refine wl_upd 3 _ rfl (congrArg (Value.int .i64) hs) ?_
  refine wP rfl (wP rfl (wP rfl (wl_nil ?_)))
  refine ne_loop (k + 1) ⟨hk, fun j hj => ?_⟩ (by omega) ⟨rfl, rfl, congrArg (fun z => some (Value.int .i64 z)) (wrap_id (x := (k : Int) + 1) (by omega) (by omega)), trivial⟩ [] rfl
  by_cases e : j = k
  ·subst e; exact hz
  ·exact hok j (by omega)
 have e : k = rs.length := by simp at h; omega
 subst e
 clear h
 rw [List.take_length]
 have hne : ∀ l ∈ rs, l ≠ [] := fun l hl e => by
  obtain ⟨i, hi, e2⟩ := List.getElem_of_mem hl
  have := hok i hi
  rw [show rg rs i = rs[i] by simp [rg, hi], e2, e] at this
  exact this rfl
 have he : rs.any (fun l => l.length == 0) = false := Bool.eq_false_iff.2 fun h2 => by
  obtain ⟨l, h3, h4⟩ := List.any_eq_true.1 h2
  rw [beq_iff_eq] at h4
  exact hne l h3 (List.length_eq_zero_iff.1 h4)
 have hN : ¬ (rs.any (fun l => l.length == 0) = true) := by rw [he]; decide
 have h0 : ¬ tot rs = 0 := by
  have h1 := len_le_tot (List.mem_of_getElem? (rg_get hpos))
  have h2 := hok 0 hpos
  omega
 refine zJ (zK (zK (zL (zE (zA (zA (zB (wP rfl (wP rfl (wl_nil (zE ?_)))))))))))
 refine wc_cond rfl (fun h => ?_) (fun h => ?_)
 ·refine zA (zB (wP rfl (wl_nil (zE (zO (zP ?_))))))
  have h1 : tot rs > 24 := by have h' : decide (((tot rs : Nat) : Int) > 24) = true := h; rw [decide_eq_true_iff] at h'; omega
  exact ne_ret1 tH rfl (.tmp rfl) () (by unfold chkR; rw [if_neg hN, if_neg h0, if_pos h1]) trivial fun W _ => NewBx.nil _ _
 have h1 : ¬ tot rs > 24 := by have h' : decide (((tot rs : Nat) : Int) > 24) = false := h; rw [decide_eq_false_iff_not] at h'; omega
 clear h
 refine zI (zE (zA (zA (zB (wP rfl (wl_nil (zE (zH ?_))))))))
 refine wc_loop (X := Nat) (fun k => [(1, .pointer (some ⟨b1, 0, none⟩)), (5, .int .i64 (k : Nat))]) (fun _ => [⟨b1, 24, [slv (some ⟨b, off, none⟩) rs.length cap], true, none⟩])
  (fun k => k ≤ rs.length ∧ ∀ j, j < k → ∀ s ∈ rg rs j, rgd s = true) (fun k => rs.length - k) 0 ⟨Nat.zero_le _, fun j hj => absurd hj (Nat.not_lt_zero _)⟩ ⟨rfl, rfl, trivial⟩ [] rfl ?_
 rintro k ⟨hk, hok2⟩
 refine zA (zA (zB (wP rfl (wP rfl (wB 0 rfl rfl rfl (wP rfl (wP rfl (wl_nil (zE ?_)))))))))
 refine wc_cond rfl (fun h => ?_) (fun h => ?_)
 ·have hk : k < rs.length := by simp at h; omega
  clear h
  obtain ⟨q, cap2, hq1, hq2⟩ := hrow k hk
  have hlk := hl _ (List.mem_of_getElem? (rg_get hk))
  refine zI (zE (zA (zH (zA (zB (wP rfl (wl_nil (zE (zH ?_)))))))))
  refine wc_loop (X := Nat) (fun i => [(1, .pointer (some ⟨b1, 0, none⟩)), (5, .int .i64 (k : Nat)), (6, .int .i64 (i : Nat))]) (fun _ => [⟨b1, 24, [slv (some ⟨b, off, none⟩) rs.length cap], true, none⟩])
   (fun i => i ≤ (rg rs k).length ∧ ∀ j, j < i → rgd (sd (rg rs k) j) = true) (fun i => (rg rs k).length - i) 0 ⟨Nat.zero_le _, fun j hj => absurd hj (Nat.not_lt_zero _)⟩ ⟨rfl, rfl, rfl, trivial⟩ [] rfl ?_
  rintro i ⟨hi, hoki⟩
  refine zA (zA (zB (wP rfl (wP rfl (wB 0 rfl rfl rfl (wP rfl ?_))))))
  refine wI rfl rfl (by omega) (by omega) ?_
  refine wl_load rfl rfl rfl rfl (fun W hp => RowAt.load 0 tH rfl ((fun W hp => hq1.hp hp) W hp) rfl) ?_
  refine wP rfl (wP rfl (wl_nil (zE ?_)))
  refine wc_cond rfl (fun h => ?_) (fun h => ?_)
  ·have hi : i < (rg rs k).length := by simp at h; omega
   clear h
   obtain ⟨b4, off4, rfl, hrow4⟩ := hq2.row hi
   refine zI (zE (zA (zH (zA (zB (wP rfl (wB 0 rfl rfl rfl (wP rfl ?_))))))))
   refine wI rfl rfl (by omega) (by omega) ?_
   refine wl_load rfl rfl rfl rfl (fun W hp => RowAt.load 0 tH rfl ((fun W hp => hq1.hp hp) W hp) rfl) ?_
   refine wP rfl ?_
   refine wI rfl rfl (by omega) (by omega) ?_
   refine wl_load rfl rfl rfl rfl (fun W hp => RowAt.load 0 tH rfl ((fun W hp => (hrow4 i hi).hp hp) W hp) rfl) ?_
   refine wl_call1 rfl rfl rfl rfl rfl rfl (by kernel_rfl) (fun W _ => rangedR_gives (sd (rg rs k) i) W) ?_
   refine wP rfl (wl_nil (zE ?_))
   refine wc_cond rfl (fun h => ?_) (fun h => ?_)
   ·refine zA (zB (wP rfl (wl_nil (zE (zO (zQ (zP (zP (zQ (zQ (zP (zP (zQ ?_)))))))))))))
    refine zP ?_
    have h2 : rs.flatten.any (fun s => !rgd s) = true := List.any_eq_true.2 ⟨sd (rg rs k) i, List.mem_flatten.2 ⟨rg rs k, List.mem_of_getElem? (rg_get hk), List.mem_of_getElem? (sd_get hi)⟩, h⟩
    exact ne_ret1 tH rfl (.tmp rfl) () (by unfold chkR; rw [if_neg hN, if_neg h0, if_neg h1, if_pos h2]) trivial fun W _ => NewBx.nil _ _
   ·have hg : rgd (sd (rg rs k) i) = true := by have h' : (!rgd (sd (rg rs k) i)) = false := h; simpa using h'
    refine zI (zN (zE (zB (wP rfl (wP rfl (wP rfl (wl_nil ?_)))))))
    refine ne_loop (i + 1) ⟨hi, fun j hj => ?_⟩ (by omega) ⟨rfl, rfl, congrArg (fun z => some (Value.int .i64 z)) (wrap_id (x := (i : Int) + 1) (by omega) (by omega)), trivial⟩ [] rfl
    by_cases e : j = i
    ·subst e; exact hg
    ·exact hoki j (by omega)
  ·have e : i = (rg rs k).length := by simp at h; omega
   subst e
   refine zJ (zK (zK (zL (zN (zE (zB (wP rfl (wP rfl (wP rfl (wl_nil ?_))))))))))
   refine ne_loop (k + 1) ⟨hk, fun j hj s hs => ?_⟩ (by omega) ⟨rfl, congrArg (fun z => some (Value.int .i64 z)) (wrap_id (x := (k : Int) + 1) (by omega) (by omega)), trivial⟩ [] rfl
   by_cases e : j = k
   ·subst e
    obtain ⟨m, hm, e⟩ := List.getElem_of_mem hs
    have := hoki m hm
    rw [show sd (rg rs j) m = s by simp [sd, hm, e]] at this
    exact this
   ·exact hok2 j (by omega) s hs
 have e : k = rs.length := by simp at h; omega
 subst e
 clear h
 have hrg : ∀ l ∈ rs, ∀ s ∈ l, rgd s = true := fun l hl s hs => by
  obtain ⟨i, hi, e2⟩ := List.getElem_of_mem hl
  have := hok2 i hi
  rw [show rg rs i = l by simp [rg, hi, e2]] at this
  exact this s hs
 have h2 : ¬ (rs.flatten.any (fun s => !rgd s) = true) := fun h => by
  obtain ⟨s, hs, h⟩ := List.any_eq_true.1 h
  obtain ⟨l, hl, hs⟩ := List.mem_flatten.1 hs
  rw [hrg l hl s hs] at h; cases h
 refine zJ (zK (zK (zL (zE (zA (zA (zB (wP rfl (wl_nil (zE (zH ?_)))))))))))
 refine wc_loop (X := Nat) (fun k => [(1, .pointer (some ⟨b1, 0, none⟩)), (7, .int .i64 (k : Nat))]) (fun _ => [⟨b1, 24, [slv (some ⟨b, off, none⟩) rs.length cap], true, none⟩])
  (fun k => k ≤ rs.length ∧ ∀ j, j < k → shpR (rg rs j) = true) (fun k => rs.length - k) 0 ⟨Nat.zero_le _, fun j hj => absurd hj (Nat.not_lt_zero _)⟩ ⟨rfl, rfl, trivial⟩ [] rfl ?_
 rintro k ⟨hk, hok3⟩
 refine zA (zA (zB (wP rfl (wP rfl (wB 0 rfl rfl rfl (wP rfl (wP rfl (wl_nil (zE ?_)))))))))
 refine wc_cond rfl (fun h => ?_) (fun h => ?_)
 ·have hk : k < rs.length := by simp at h; omega
  clear h
  obtain ⟨q, cap2, hq1, hq2⟩ := hrow k hk
  have hlk := hl _ (List.mem_of_getElem? (rg_get hk))
  refine zI (zE (zA (zH (zA (zB (wP rfl (wB 0 rfl rfl rfl (wP rfl ?_))))))))
  refine wI rfl rfl (by omega) (by omega) ?_
  refine wl_load rfl rfl rfl rfl (fun W hp => RowAt.load 0 tH rfl ((fun W hp => hq1.hp hp) W hp) rfl) ?_
  refine wl_call1 rfl rfl rfl rfl rfl rfl (by kernel_rfl) (fun W hp => shapedR_gives W q cap2 (rg rs k) hlk (hq2.hp hp)) ?_
  refine wP rfl (wl_nil (zE ?_))
  refine wc_cond rfl (fun h => ?_) (fun h => ?_)
  ·refine zA (zB (wP rfl (wl_nil (zE (zO (zQ (zP (zP (zQ (zP ?_))))))))))
   have h3 : rs.any (fun l => !shpR l) = true := List.any_eq_true.2 ⟨_, List.mem_of_getElem? (rg_get hk), h⟩
   exact ne_ret1 tH rfl (.tmp rfl) () (by unfold chkR; rw [if_neg hN, if_neg h0, if_neg h1, if_neg h2, if_pos h3]) trivial fun W _ => NewBx.nil _ _
  ·have hg : shpR (rg rs k) = true := by have h' : (!shpR (rg rs k)) = false := h; simpa using h'
   refine zI (zN (zE (zB (wP rfl (wP rfl (wP rfl (wl_nil ?_)))))))
   refine ne_loop (k + 1) ⟨hk, fun j hj => ?_⟩ (by omega) ⟨rfl, congrArg (fun z => some (Value.int .i64 z)) (wrap_id (x := (k : Int) + 1) (by omega) (by omega)), trivial⟩ [] rfl
   by_cases e : j = k
   ·subst e; exact hg
   ·exact hok3 j (by omega)
 have e : k = rs.length := by simp at h; omega
 subst e
 clear h
 have h3 : ¬ (rs.any (fun l => !shpR l) = true) := fun h => by
  obtain ⟨l, hl, h⟩ := List.any_eq_true.1 h
  obtain ⟨i, hi, e2⟩ := List.getElem_of_mem hl
  have := hok3 i hi
  rw [show rg rs i = l by simp [rg, hi, e2]] at this
  rw [this] at h; cases h
 refine zJ (zK (zK (zL (zE (zA (zA (zB (wP rfl (wB 0 rfl rfl rfl ?_)))))))))
 refine wl_call1 rfl rfl rfl rfl rfl rfl (by kernel_rfl) (fun W hp => crossedR_gives W _ cap rs hn hl (hR.below (Nat.le_refl _) hp.below)) ?_
 refine wl_nil (zE ?_)
 refine wc_cond rfl (fun h => ?_) (fun h => ?_)
 ·refine zA (zB (wP rfl (wl_nil (zE (zO (zP ?_))))))
  exact ne_ret1 tH rfl (.tmp rfl) () (by unfold chkR; rw [if_neg hN, if_neg h0, if_neg h1, if_neg h2, if_neg h3, if_pos h]) trivial fun W _ => NewBx.nil _ _
 have h4 : ¬ (crs rs = true) := by rw [h]; decide
 clear h
 refine zI (zE (zA (zA (zB (wP rfl (wB 0 rfl rfl rfl ?_))))))
 refine wl_call1 rfl rfl rfl rfl rfl rfl (by kernel_rfl) (fun W hp => placedR_gives W _ cap rs hn hl hne hpos (hR.below (Nat.le_refl _) hp.below)) ?_
 refine wP rfl (wP rfl ?_)
 refine wl_part 84 rfl (fun h84 => ?_) (fun h84 => ?_)
 ·refine wl_skip rfl rfl ?_
  iterate 3 refine wl_skip rfl rfl ?_
  refine wP rfl (wl_nil ?_)
  have h5 : (!plcR rs || !jndR rs) = true := by rw [show (!plcR rs) = true from h84]; rfl
  refine zE (zR rfl (zA (zB (wP rfl (wl_nil (zE (zO (zP ?_))))))))
  exact ne_ret1 tH rfl (.tmp rfl) () (by unfold chkR; rw [if_neg hN, if_neg h0, if_neg h1, if_neg h2, if_neg h3, if_neg h4, if_pos h5]) trivial fun W _ => NewBx.nil _ _
 ·refine wP rfl (wB 0 rfl rfl rfl ?_)
  refine wl_call1 rfl rfl rfl rfl rfl rfl (by kernel_rfl) (fun W hp => reflex_gives W _ cap rs hn hl (hR.below (Nat.le_refl _) hp.below)) ?_
  refine wP rfl (wP rfl (wl_nil ?_))
  have h' : (!plcR rs) = false := h84
  refine zE ?_
  refine wc_cond rfl (fun h => ?_) (fun h => ?_)
  ·refine zA (zB (wP rfl (wl_nil (zE (zO (zP ?_))))))
   have h5 : (!plcR rs || !jndR rs) = true := by rw [h', show (!jndR rs) = true from h]; rfl
   exact ne_ret1 tH rfl (.tmp rfl) () (by unfold chkR; rw [if_neg hN, if_neg h0, if_neg h1, if_neg h2, if_neg h3, if_neg h4, if_pos h5]) trivial fun W _ => NewBx.nil _ _
  ·refine zI (zE (zA (zB (wP rfl (wl_nil (zE (zO ?_)))))))
   have h5 : ¬ ((!plcR rs || !jndR rs) = true) := by rw [h', show (!jndR rs) = false from h]; decide
   exact ne_ret1 tH rfl (.tmp rfl) () (by unfold chkR; rw [if_neg hN, if_neg h0, if_neg h1, if_neg h2, if_neg h3, if_neg h4, if_neg h5]) trivial fun W _ => NewBx.nil _ _
end Go.Proofs.YtlagebbefnnnnaaGreatDoor
namespace Go.Proofs.YtlagebbefnnnnaaGreatDoor
open Go Go.RowKit Go.Am
theorem sgI_cases (a : Int) : (sgI a = -1 ∧ a < 0) ∨ (sgI a = 0 ∧ a = 0) ∨ (sgI a = 1 ∧ a > 0) := by
 unfold sgI
 rcases Int.lt_trichotomy a 0 with h | h | h
 ·rw [if_pos h]; exact .inl ⟨rfl, h⟩
 ·rw [if_neg (by omega), if_neg (by omega)]; exact .inr (.inl ⟨rfl, h⟩)
 ·rw [if_neg (by omega), if_pos h]; exact .inr (.inr ⟨rfl, h⟩)
theorem dir_eq {l : List Sd} (hr : ∀ s ∈ l, inR s) {i : Nat} (hi : i < l.length) : dirX l i = sgI ((sd l (nxt l.length i)).x - (sd l i).x) ∧ dirY l i = sgI ((sd l (nxt l.length i)).y - (sd l i).y) := by
 obtain ⟨s1, s2, s3, s4⟩ := sd_inR hr hi
 obtain ⟨n1, n2, n3, n4⟩ := sd_inR hr (nxt_lt hi)
 unfold dirX dirY
 rw [d64 ⟨n1, n2⟩ ⟨s1, s2⟩, d64 ⟨n3, n4⟩ ⟨s3, s4⟩]
 exact ⟨rfl, rfl⟩
theorem ax_iff {l : List Sd} (hr : ∀ s ∈ l, inR s) {i : Nat} (hi : i < l.length) : axR l i = true ↔ ¬ (((sd l (nxt l.length i)).x - (sd l i).x = 0) ↔ ((sd l (nxt l.length i)).y - (sd l i).y = 0)) := by
 obtain ⟨e1, e2⟩ := dir_eq hr hi
 unfold axR
 rw [e1, e2]
 generalize (sd l (nxt l.length i)).x - (sd l i).x = a
 generalize (sd l (nxt l.length i)).y - (sd l i).y = b
 rcases sgI_cases a with ⟨ea, ha⟩ | ⟨ea, ha⟩ | ⟨ea, ha⟩ <;> rcases sgI_cases b with ⟨eb, hb⟩ | ⟨eb, hb⟩ | ⟨eb, hb⟩ <;> rw [ea, eb]
 ·rw [show (w64 (w64 (-1 * -1) + w64 (-1 * -1)) == 1) = false by decide]; constructor <;> intro h; cases h; omega
 ·rw [show (w64 (w64 (-1 * -1) + w64 (0 * 0)) == 1) = true by decide]; constructor <;> intro h; omega; rfl
 ·rw [show (w64 (w64 (-1 * -1) + w64 (1 * 1)) == 1) = false by decide]; constructor <;> intro h; cases h; omega
 ·rw [show (w64 (w64 (0 * 0) + w64 (-1 * -1)) == 1) = true by decide]; constructor <;> intro h; omega; rfl
 ·rw [show (w64 (w64 (0 * 0) + w64 (0 * 0)) == 1) = false by decide]; constructor <;> intro h; cases h; omega
 ·rw [show (w64 (w64 (0 * 0) + w64 (1 * 1)) == 1) = true by decide]; constructor <;> intro h; omega; rfl
 ·rw [show (w64 (w64 (1 * 1) + w64 (-1 * -1)) == 1) = false by decide]; constructor <;> intro h; cases h; omega
 ·rw [show (w64 (w64 (1 * 1) + w64 (0 * 0)) == 1) = true by decide]; constructor <;> intro h; omega; rfl
 ·rw [show (w64 (w64 (1 * 1) + w64 (1 * 1)) == 1) = false by decide]; constructor <;> intro h; cases h; omega
theorem trn_cases {l : List Sd} (hr : ∀ s ∈ l, inR s) {i : Nat} (hi : i < l.length) (h1 : axR l i = true) (h2 : axR l (prv l.length i) = true) :
  (trnR l i ≠ 0 ↔ ¬ (((sd l i).x - (sd l (prv l.length i)).x = 0) ↔ ((sd l (nxt l.length i)).x - (sd l i).x = 0))) ∧ (trnR l i ≠ 0 → (trnR l i < 0 ↔ leftB (sd l (prv l.length i)) (sd l i) (sd l (nxt l.length i)) = false)) := by
 have a1 := (ax_iff hr hi).1 h1
 have a2 := (ax_iff hr (prv_lt hi)).1 h2
 obtain ⟨e1, e2⟩ := dir_eq hr hi
 obtain ⟨e3, e4⟩ := dir_eq hr (prv_lt hi)
 rw [nxt_prv hi] at a2 e3 e4
 have i1 := sd_inR hr hi
 have i2 := sd_inR hr (nxt_lt hi)
 have i3 := sd_inR hr (prv_lt hi)
 rw [leftB_eq i3 i1 i2, decide_eq_false_iff_not]
 unfold trnR
 rw [e1, e2, e3, e4]
 generalize (sd l (nxt l.length i)).x - (sd l i).x = c at *
 generalize (sd l (nxt l.length i)).y - (sd l i).y = d at *
 generalize (sd l i).x - (sd l (prv l.length i)).x = a at *
 generalize (sd l i).y - (sd l (prv l.length i)).y = b at *
 have pp : ∀ x y : Int, x > 0 → y > 0 → x * y > 0 := fun x y h h' => Int.mul_pos h h'
 have pn : ∀ x y : Int, x > 0 → y < 0 → x * y < 0 := fun x y h h' => Int.mul_neg_of_pos_of_neg h h'
 have np : ∀ x y : Int, x < 0 → y > 0 → x * y < 0 := fun x y h h' => Int.mul_neg_of_neg_of_pos h h'
 have nn : ∀ x y : Int, x < 0 → y < 0 → x * y > 0 := fun x y h h' => Int.mul_pos_of_neg_of_neg h h'
 by_cases ha : a = 0
 ·subst ha
  have hb : b ≠ 0 := by omega
  rw [show sgI 0 = 0 from rfl, Int.zero_mul, Int.zero_mul]
  by_cases hd : d = 0
  ·subst hd
   have hc : c ≠ 0 := by omega
   rcases sgI_cases b with ⟨eb, hb'⟩ | ⟨eb, hb'⟩ | ⟨eb, hb'⟩ <;> rcases sgI_cases c with ⟨ec, hc'⟩ | ⟨ec, hc'⟩ | ⟨ec, hc'⟩ <;> first | omega | skip
   ·rw [eb, ec, show w64 (w64 0 - w64 (-1 * -1)) = -1 by decide]; have := nn b c hb' hc'; omega
   ·rw [eb, ec, show w64 (w64 0 - w64 (-1 * 1)) = 1 by decide]; have := np b c hb' hc'; omega
   ·rw [eb, ec, show w64 (w64 0 - w64 (1 * -1)) = 1 by decide]; have := pn b c hb' hc'; omega
   ·rw [eb, ec, show w64 (w64 0 - w64 (1 * 1)) = -1 by decide]; have := pp b c hb' hc'; omega
  ·have hc : c = 0 := by omega
   subst hc
   rw [show sgI 0 = 0 from rfl, Int.mul_zero, show w64 (w64 0 - w64 0) = 0 by decide]
   omega
 ·have hb : b = 0 := by omega
  subst hb
  rw [show sgI 0 = 0 from rfl, Int.zero_mul, Int.zero_mul]
  by_cases hc : c = 0
  ·subst hc
   have hd : d ≠ 0 := by omega
   rcases sgI_cases a with ⟨eb, hb'⟩ | ⟨eb, hb'⟩ | ⟨eb, hb'⟩ <;> rcases sgI_cases d with ⟨ec, hc'⟩ | ⟨ec, hc'⟩ | ⟨ec, hc'⟩ <;> first | omega | skip
   ·rw [eb, ec, show w64 (w64 (-1 * -1) - w64 0) = 1 by decide]; have := nn a d hb' hc'; omega
   ·rw [eb, ec, show w64 (w64 (-1 * 1) - w64 0) = -1 by decide]; have := np a d hb' hc'; omega
   ·rw [eb, ec, show w64 (w64 (1 * -1) - w64 0) = -1 by decide]; have := pn a d hb' hc'; omega
   ·rw [eb, ec, show w64 (w64 (1 * 1) - w64 0) = 1 by decide]; have := pp a d hb' hc'; omega
  ·have hd : d = 0 := by omega
   subst hd
   rw [show sgI 0 = 0 from rfl, Int.mul_zero, show w64 (w64 0 - w64 0) = 0 by decide]
   omega
theorem shp_eq {l : List Sd} (hr : ∀ s ∈ l, inR s) : shpR l = shp l := by
 rw [Bool.eq_iff_iff]
 constructor
 ·intro h
  unfold shpR at h
  obtain ⟨h1, h2⟩ := Bool.and_eq_true_iff.1 h
  have ok : ∀ i, i < l.length → axR l i = true ∧ trnR l i ≠ 0 := fun i hi => by
   have := List.all_eq_true.1 h1 i (List.mem_range.2 hi)
   unfold okR at this
   obtain ⟨a, b⟩ := Bool.and_eq_true_iff.1 this
   exact ⟨a, by simpa using b⟩
  exact shp_mk hr (of_decide_eq_true h2) fun i hi => ⟨(ax_iff hr hi).1 (ok i hi).1, (trn_cases hr hi (ok i hi).1 (ok _ (prv_lt hi)).1).1.1 (ok i hi).2⟩
 ·intro h
  have ax : ∀ i, i < l.length → axR l i = true := fun i hi => (ax_iff hr hi).2 (shp_side hr h hi).1
  unfold shpR
  rw [decide_eq_true (shp_len h), Bool.and_true]
  refine List.all_eq_true.2 fun i hi => ?_
  have hi := List.mem_range.1 hi
  have := (trn_cases hr hi (ax i hi) (ax _ (prv_lt hi))).1.2 (shp_side hr h hi).2
  unfold okR
  rw [ax i hi, beq_eq_false_iff_ne.2 this]; rfl
theorem shp_turn {l : List Sd} (hr : ∀ s ∈ l, inR s) (h : shp l = true) {i : Nat} (hi : i < l.length) : trnR l i ≠ 0 ∧ (trnR l i < 0 ↔ leftB (sd l (prv l.length i)) (sd l i) (sd l (nxt l.length i)) = false) := by
 have ax : ∀ i, i < l.length → axR l i = true := fun i hi => (ax_iff hr hi).2 (shp_side hr h hi).1
 have t := trn_cases hr hi (ax i hi) (ax _ (prv_lt hi))
 have hne := t.1.2 (shp_side hr h hi).2
 exact ⟨hne, t.2 hne⟩
theorem ref_eq {l : List Sd} (hr : ∀ s ∈ l, inR s) (h : shp l = true) {i : Nat} (hi : i < l.length) : refS l i = joinSide l i := by
 have t := (shp_turn hr h hi).2
 unfold refS joinSide joinB
 cases hl : leftB (sd l (prv l.length i)) (sd l i) (sd l (nxt l.length i)) with
 | true => rw [decide_eq_false (fun e => by rw [t.1 e] at hl; cases hl)]; rfl
 | false =>
  rw [decide_eq_true (t.2 hl), Bool.true_and, Bool.false_or]
  have e : ∀ a b : Int, (!(false || false || (a != b))) = (!false && !false && (b == a)) := fun a b => by
   by_cases h : a = b
   ·subst h; simp
   ·rw [bne_iff_ne.2 h, beq_eq_false_iff_ne.2 (fun x => h x.symm)]; rfl
  cases (sd l i).gable <;> cases (sd l (prv l.length i)).gable <;> first | rfl | exact e _ _
theorem jnd_eq {rs : List (List Sd)} (hin : allR rs) (hs : ∀ l ∈ rs, shp l = true) : jndR rs = jnd rs := by
 unfold jndR jnd
 congr 1
 rw [Bool.eq_iff_iff, List.all_eq_true, List.all_eq_true]
 have e : ∀ l ∈ rs, ((List.range l.length).all (refS l)) = joinRing l := fun l hl => all_congr fun i hi => ref_eq (hin l hl) (hs l hl) hi
 constructor <;> intro h l hl
 ·rw [← e l hl]; exact h l hl
 ·rw [e l hl]; exact h l hl
theorem tw_eq {l : List Sd} (h : ∀ s ∈ l, inR s) : ∀ k, k ≤ l.length → k ≤ 1000000 → twR l k = sumTo (crossAt l) k ∧ -(k * 4294967296 : Int) ≤ twR l k ∧ twR l k ≤ k * 4294967296
 | 0, _, _ => ⟨rfl, by simp [twR], by simp [twR]⟩
 | k + 1, hk, hm => by
  obtain ⟨h1, h2, h3⟩ := tw_eq h k (by omega) (by omega)
  have hs := sd_inR h (show k < l.length by omega)
  have hn := sd_inR h (nxt_lt (show k < l.length by omega))
  obtain ⟨a1, a2⟩ := mul_bound hs.1 hs.2.1 hn.2.2.1 hn.2.2.2
  obtain ⟨b1, b2⟩ := mul_bound hs.2.2.1 hs.2.2.2 hn.1 hn.2.1
  have e : twR l (k + 1) = twR l k + crossAt l k := by
   show w64 (w64 (twR l k + w64 ((sd l k).x * (sd l (nxt l.length k)).y)) - w64 ((sd l (nxt l.length k)).x * (sd l k).y)) = _
   unfold crossAt
   rw [Int.mul_comm (sd l (nxt l.length k)).x, w64_id (x := (sd l k).x * _) (by omega) (by omega), w64_id (x := (sd l k).y * _) (by omega) (by omega), w64_id (x := twR l k + _) (by omega) (by omega)]
   rw [w64_id (by omega) (by omega)]; omega
  have ec : crossAt l k = (sd l k).x * (sd l (nxt l.length k)).y - (sd l k).y * (sd l (nxt l.length k)).x := rfl
  refine ⟨by rw [e, h1]; rfl, ?_, ?_⟩ <;> rw [e, ec] <;> push_cast <;> omega
theorem ins_eq {l : List Sd} (h : ∀ s ∈ l, inR s) (px py : Int) : ∀ k, k ≤ l.length → insR l px py k = insUp l px py k
 | 0, _ => rfl
 | k + 1, hk => by
  have hs := sd_inR h (show k < l.length by omega)
  have hn := sd_inR h (nxt_lt (show k < l.length by omega))
  have e : passR (sd l k) (sd l (nxt l.length k)) px py = passB (sd l k) (sd l (nxt l.length k)) px py := by
   unfold passR passB
   rw [d64 ⟨hn.1, hn.2.1⟩ ⟨hs.1, hs.2.1⟩]
   generalize sd l k = t
   generalize sd l (nxt l.length k) = u
   by_cases hx : t.x = u.x
   ·rw [beq_iff_eq.2 hx, beq_iff_eq.2 (show u.x - t.x = 0 by omega), hx]
    rw [Bool.true_and, Bool.and_assoc]
    congr 1
    unfold loy hiy
    by_cases h1 : t.y > py <;> by_cases h2 : u.y > py
    ·rw [decide_eq_true h1, decide_eq_true h2, decide_eq_false (by split <;> omega)]; rfl
    ·rw [decide_eq_true h1, decide_eq_false h2, decide_eq_true (by split <;> omega), decide_eq_true (by split <;> omega)]; rfl
    ·rw [decide_eq_false h1, decide_eq_true h2, decide_eq_true (by split <;> omega), decide_eq_true (by split <;> omega)]; rfl
    ·rw [decide_eq_false h1, decide_eq_false h2, decide_eq_false (p := py < _) (by split <;> omega), Bool.and_false]; rfl
   ·rw [beq_eq_false_iff_ne.2 hx, beq_eq_false_iff_ne.2 (show u.x - t.x ≠ 0 by omega)]; rfl
  show (if passR (sd l k) (sd l (nxt l.length k)) px py = true then !insR l px py k else insR l px py k) = (if passB (sd l k) (sd l (nxt l.length k)) px py = true then !insUp l px py k else insUp l px py k)
  rw [e, ins_eq h px py k (by omega)]
theorem plc_eq {rs : List (List Sd)} (hin : allR rs) (hs : ∀ l ∈ rs, shp l = true) (hc : crs rs = false) (hT : tot rs ≤ 24) (hpos : 0 < rs.length) : plcR rs = plc rs := by
 have ar : ∀ r, r < rs.length → twR (rg rs r) (rg rs r).length = areaUp (rg rs r) (rg rs r).length ∧ areaUp (rg rs r) (rg rs r).length ≠ 0 := fun r hr => by
  have hm : rg rs r ∈ rs := List.mem_of_getElem? (rg_get hr)
  have hlen := len_le_tot hm
  rw [(tw_eq (hin _ hm) _ (Nat.le_refl _) (by omega)).1, (areaUp_eq (hin _ hm) _ (Nat.le_refl _) (by omega)).1]
  exact ⟨rfl, area_ne hin hs hc hr⟩
 have pk : ∀ r s, r < rs.length → s < rs.length → r ≠ 0 → plsR rs r s = placeK rs r s := fun r s hr hs' h0 => by
  unfold plsR placeK
  rw [ins_eq (hin _ (List.mem_of_getElem? (rg_get hs'))) _ _ _ (Nat.le_refl _), beq_eq_false_iff_ne.2 h0, Bool.or_false]
 have all : ∀ r, r < rs.length → r ≠ 0 → ((List.range rs.length).all (plsR rs r)) = ((List.range rs.length).all (placeK rs r)) := fun r hr h0 => all_congr fun s hs' => pk r s hr hs' h0
 rw [Bool.eq_iff_iff]
 constructor
 ·intro h
  unfold plcR at h
  obtain ⟨h1, h2⟩ := Bool.and_eq_true_iff.1 h
  refine List.all_eq_true.2 fun r hr => ?_
  have hr := List.mem_range.1 hr
  have hr2 := List.all_eq_true.1 h2 r (List.mem_range.2 hr)
  obtain ⟨a1, a2⟩ := ar r hr
  unfold placeRing
  by_cases e : r = 0
  ·subst e
   rw [a1] at h1
   have h1 : ¬ areaUp (rg rs 0) (rg rs 0).length ≤ 0 := by simpa using h1
   rw [decide_eq_true (by omega)]
   exact Bool.and_eq_true_iff.2 ⟨rfl, List.all_eq_true.2 fun k _ => by unfold placeK; simp⟩
  ·unfold plrR at hr2
   rw [beq_eq_false_iff_ne.2 e, Bool.false_or, a1] at hr2
   obtain ⟨b1, b2⟩ := Bool.and_eq_true_iff.1 hr2
   have b1 : ¬ areaUp (rg rs r) (rg rs r).length ≥ 0 := by simpa using b1
   rw [decide_eq_false (by omega), beq_eq_false_iff_ne.2 e, ← all r hr e, b2]; rfl
 ·intro h
  have pr : ∀ r, r < rs.length → placeRing rs r = true := fun r hr => List.all_eq_true.1 h r (List.mem_range.2 hr)
  unfold plcR
  have h0 := pr 0 hpos
  unfold placeRing at h0
  obtain ⟨c1, _⟩ := Bool.and_eq_true_iff.1 h0
  obtain ⟨a1, a2⟩ := ar 0 hpos
  have c2 : areaUp (rg rs 0) (rg rs 0).length > 0 := by simpa using c1
  rw [a1, decide_eq_false (by omega), Bool.not_false, Bool.true_and]
  refine List.all_eq_true.2 fun r hr => ?_
  have hr := List.mem_range.1 hr
  unfold plrR
  by_cases e : r = 0
  ·subst e; rfl
  ·have h1 := pr r hr
   unfold placeRing at h1
   obtain ⟨d1, d2⟩ := Bool.and_eq_true_iff.1 h1
   obtain ⟨a1, a2⟩ := ar r hr
   rw [beq_eq_false_iff_ne.2 e, beq_iff_eq, decide_eq_false_iff_not] at d1
   rw [a1, decide_eq_false (by omega), all r hr e, d2]
   simp
theorem chkR_eq (rs : List (List Sd)) : chkR rs = chk rs := by
 unfold chkR chk
 by_cases hN : rs.any (fun l => l.length == 0) = true
 ·rw [if_pos hN, if_pos hN]
 rw [if_neg hN, if_neg hN]
 by_cases h0 : tot rs = 0
 ·rw [if_pos h0, if_pos h0]
 rw [if_neg h0, if_neg h0]
 by_cases h1 : tot rs > 24
 ·rw [if_pos h1, if_pos h1]
 rw [if_neg h1, if_neg h1]
 by_cases h2 : rs.flatten.any (fun s => !rgd s) = true
 ·rw [if_pos h2, if_pos h2]
 rw [if_neg h2, if_neg h2]
 have hg : ∀ l ∈ rs, ∀ s ∈ l, rgd s = true := any_rgd (by simpa using h2)
 have hin : allR rs := fun l hl s hs => rgd_inR (hg l hl s hs)
 have e3 : rs.any (fun l => !shpR l) = rs.any (fun l => !shp l) := by
  rw [Bool.eq_iff_iff, List.any_eq_true, List.any_eq_true]
  constructor <;> rintro ⟨l, hl, h⟩
  ·exact ⟨l, hl, by rw [← shp_eq (hin l hl)]; exact h⟩
  ·exact ⟨l, hl, by rw [shp_eq (hin l hl)]; exact h⟩
 rw [e3]
 by_cases h3 : rs.any (fun l => !shp l) = true
 ·rw [if_pos h3, if_pos h3]
 rw [if_neg h3, if_neg h3]
 have hs : ∀ l ∈ rs, shp l = true := fun l hl => by
  cases h : shp l with
  | true => rfl
  | false => exact absurd (List.any_eq_true.2 ⟨l, hl, by rw [h]; rfl⟩) h3
 by_cases h4 : crs rs = true
 ·rw [if_pos h4, if_pos h4]
 rw [if_neg h4, if_neg h4]
 have hpos : 0 < rs.length := by
  cases rs with
  | nil => exact absurd rfl h0
  | cons x rs => simp
 rw [plc_eq hin hs (by simpa using h4) (by omega) hpos, jnd_eq hin hs]
end Go.Proofs.YtlagebbefnnnnaaGreatDoor
namespace Go.Proofs.YtlagebbefnnnnaaGreatDoor
open Go Go.RowKit Go.Am Go.Lib
set_option maxRecDepth 10000
-- BOXES 5
abbrev ptV (x y : Rat) : Value := .agg #[str (numS x), str (numS y)]
set_option maxHeartbeats 8000000 in
theorem fstart2_gives (f : FrP) (h : f.OK) (p q : Rat) (hp : szQ p 36) (hq : szQ q 36) (b : Nat) (W : World) (hv : MaxP W) (ht : TabP W) (hrow : RowAt W b 0 [str (numS p), str (numS q)]) :
  CallsR Tryz.prog 56 #[frV f, .slice (some ⟨b, 0, none⟩) 2 2] W (fun _ : Unit => .int .i64 0) (fun _ => True) (fun _ => []) := by
 refine calls_enter (args := [frV f, .slice (some ⟨b, 0, none⟩) 2 2]) Tryz.func56 rfl rfl rfl ?_
 refine zA (zB ?_)
 (refine wl_box rfl rfl rfl rfl ?_; intro)
 refine wP rfl (wl_nil ?_)
 rename_i b2
 refine zE (zA (zA (zB (wB 0 rfl rfl rfl ?_))))
 refine wl_call1 rfl rfl rfl rfl rfl rfl (by kernel_rfl) (fun W hp => fcheck_gives f h W (hv.hp hp) (ht.hp hp)) ?_
 refine wP rfl (wl_nil (zE (zS rfl (zI (zE (zA (zA (zB (wP rfl (wP rfl (wP rfl (wl_nil (ne_then ?_)))))))))))))
 refine wc_cutS (X := Unit) (fun _ => [(4, .int .i64 0)]) (fun _ => []) (fun _ => True) ?_ ?_
 ·refine wc_block ?_
  refine wc_loop (X := Nat) (fun i => [(4, .int .i64 0), (11, .slice (some ⟨b, 0, none⟩) 2 2), (12, .int .i64 2), (13, .int .i64 (i : Nat))]) (fun _ => []) (fun i => i ≤ 2) (fun i => 2 - i) 0 (Nat.zero_le _) ⟨rfl, rfl, rfl, rfl, trivial⟩ _ rfl ?_
  intro i hi
  have hi : i = 0 ∨ i = 1 ∨ i = 2 := by have : i ≤ 2 := hi; omega
  rcases hi with rfl | rfl | rfl
  ·refine zA (zB (wP rfl (wl_nil (zE (zA (zR rfl (zI (zE (zA (zH (zA (zB ?_))))))))))))
   refine wI rfl rfl (by omega) (by omega) ?_
   refine wl_load rfl rfl rfl rfl (fun W hp => RowAt.load 0 tH rfl ((fun W hp => hrow.hp hp) W hp) rfl) ?_
   refine wP rfl (wl_nil (zE (zA (zB (wP rfl ?_)))))
   refine wl_call1 rfl rfl rfl rfl rfl rfl (by kernel_rfl) (fun W h => fnumber_gives p hp W (hv.hp h) (ht.hp h)) ?_
   refine wP rfl (wl_nil (zE (zA (zB (wP rfl (wP rfl (wl_nil (zE (zS rfl (zI (zN (zE (zB ?_)))))))))))))
   refine wP rfl (wP rfl (wl_nil ?_))
   exact ne_loop 1 (by decide) (by decide) ⟨rfl, rfl, rfl, rfl, trivial⟩ [] rfl
  ·refine zA (zB (wP rfl (wl_nil (zE (zA (zR rfl (zI (zE (zA (zH (zA (zB ?_))))))))))))
   refine wI rfl rfl (by omega) (by omega) ?_
   refine wl_load rfl rfl rfl rfl (fun W hp => RowAt.load 1 tH rfl ((fun W hp => hrow.hp hp) W hp) rfl) ?_
   refine wP rfl (wl_nil (zE (zA (zB (wP rfl ?_)))))
   refine wl_call1 rfl rfl rfl rfl rfl rfl (by kernel_rfl) (fun W h => fnumber_gives q hq W (hv.hp h) (ht.hp h)) ?_
   refine wP rfl (wl_nil (zE (zA (zB (wP rfl (wP rfl (wl_nil (zE (zS rfl (zI (zN (zE (zB ?_)))))))))))))
   refine wP rfl (wP rfl (wl_nil ?_))
   exact ne_loop 2 (by decide) (by decide) ⟨rfl, rfl, rfl, rfl, trivial⟩ [] rfl
  ·refine zA (zB (wP rfl (wl_nil (zE (zA (zS rfl (zJ (zK (zK (zL ?_))))))))))
   exact ne_cut () trivial ⟨rfl, trivial⟩ _ rfl
 ·intro _ _
  refine zA (zB (wP rfl (wl_nil (zE (zO ?_)))))
  exact ne_ret1 tH rfl (.tmp rfl) () rfl trivial fun W _ => NewBx.nil _ _
set_option maxHeartbeats 8000000 in
theorem fDist_gives (f : FrP) (h : f.OK) (x y : Rat) (hx : szQ x 36) (hy : szQ y 36) (W : World) (hv : MaxP W) (ht : TabP W) :
  CallsR Tryz.prog 18 #[frV f, ptV x y] W (fun _ : Unit => .tuple #[str (numS (f.way (if f.ax then x else y))), .int .i64 0]) (fun _ => True) (fun _ => []) := by
 obtain ⟨u, hu⟩ : ∃ u, u = (if f.ax then x else y) := ⟨_, rfl⟩
 have zu : szQ u 36 := by rw [hu]; split <;> assumption
 have z1 := sz2 zu h.posz (by decide)
 have z2 := zu.sub h.posz
 have z3 := sz2 h.hdz z2 (by decide)
 rw [← hu]
 refine calls_enter (args := [frV f, ptV x y]) Tryz.func18 rfl rfl rfl ?_
 refine zA (zB ?_)
 (refine wl_box rfl rfl rfl rfl ?_; intro)
 (refine wl_box rfl rfl rfl rfl ?_; intro)
 refine wP rfl (wP rfl (wl_nil ?_))
 rename_i b2 b3
 refine zE (zA (zA (zB (wB 0 rfl rfl rfl (wP rfl (wB 1 rfl rfl rfl (wP rfl (wB 1 rfl rfl rfl ?_))))))))
 refine wl_buildRowZ Tryz.hZ tH rfl rfl rfl rfl rfl rfl rfl rfl rfl rfl rfl fun bS => ?_
 refine wl_call1 rfl rfl rfl rfl rfl rfl (by kernel_rfl) (fun W hp => fstart2_gives f h x y hx hy bS W (hv.hp hp) (ht.hp hp) (RowAt.of_bx hp 2 rfl rfl)) ?_
 refine wP rfl (wl_nil (zE (zA (zB (wP rfl (wP rfl (wl_nil (zE (zS rfl (zI (zE (zA (zB ?_)))))))))))))
 refine wP rfl (wB 1 rfl rfl rfl (wP rfl (wl_nil (zE (zA (zA (zB (wP rfl (wB 0 rfl rfl rfl (wl_nil (ne_then ?_)))))))))))
 try refine wc_seq ?_
 refine wc_cutS (X := Unit) (fun _ => [(2, selfP b2), (7, str (numS u))]) (fun _ => [frB b2 f, ⟨b3, 44, (ptV x y).cells.toList, true, none⟩]) (fun _ => True) ?_ ?_
 ·refine wc_cond rfl (fun hax => ?_) (fun hax => ?_)
  ·have hax : f.ax = true := hax
   refine zB (wP rfl (wB 1 rfl rfl rfl (wP rfl (wl_nil ?_))))
   exact ne_cut () trivial ⟨rfl, by rw [hu, if_pos hax]; rfl, trivial⟩ [_] rfl
  ·have hax : f.ax = false := hax
   refine zI ?_
   exact ne_cut () trivial ⟨rfl, by rw [hu, if_neg (by rw [hax]; decide)]; rfl, trivial⟩ [_] rfl
 intro _ _
 refine zA ?_
 refine zT Tryz.mixed (by kernel_rfl) ?_
 refine qP rfl (qB 0 rfl rfl rfl ?_)
 refine wq_call1 rfl rfl rfl rfl rfl rfl (by kernel_rfl) (fun W hp => fwhole_gives f.hd h.hd64 W (ht.hp hp)) ?_
 refine qP rfl (qP rfl (qB 0 rfl rfl rfl ?_))
 refine wq_call1 rfl rfl rfl rfl rfl rfl (by kernel_rfl) (fun W hp => fwhole_gives f.pos h.pos64 W (ht.hp hp)) ?_
 refine wq_call1 rfl rfl rfl rfl rfl rfl (by kernel_rfl) (fun W hp => fsub_gives u (f.pos : Rat) z1 W (hv.hp hp) (ht.hp hp)) ?_
 refine wq_call1 rfl rfl rfl rfl rfl rfl (by kernel_rfl) (fun W hp => fmul_gives (f.hd : Rat) (u - (f.pos : Rat)) z3 W (hv.hp hp) (ht.hp hp)) ?_
 refine qP rfl (qP rfl (wq_nil (wl_nil (zE (zO ?_)))))
 exact ne_ret2 tH rfl (.tmp rfl) (.tmp rfl) () rfl trivial fun W _ => NewBx.nil _ _
-- BOXES 4
structure MeetN (b1 b2 : Nat) (f g : FrP) (W : World) : Prop where
 f : RowAt W b1 0 (frV f).cells.toList
 g : RowAt W b2 0 (frV g).cells.toList
 v : MaxP W
 t : TabP W
structure MeetZ (f g : FrP) : Prop where
 d1 : f.vel ≠ 0 → Sz2 (gapQ f g) f.vel
 a1 : f.vel ≠ 0 → Sz2 f.st (gapQ f g / f.vel)
 d2 : g.vel ≠ 0 → Sz2 (gapQ f g) g.vel
 a2 : g.vel ≠ 0 → Sz2 g.st (gapQ f g / g.vel)
 m1 : Sz2 f.vel f.st
 m2 : Sz2 g.vel g.st
 s : Sz2 (f.vel * f.st) (g.vel * g.st)
 a : Sz2 (gapQ f g) (f.vel * f.st - g.vel * g.st)
 w : Sz2 f.vel g.vel
 d : f.vel ≠ g.vel → Sz2 (gapQ f g + (f.vel * f.st - g.vel * g.st)) (f.vel - g.vel)
def mi3 (f : FrP) : Nat := if f.vel = 0 then 2 else 3
def mi4 (f g : FrP) : Nat := if g.vel = 0 then mi3 f else mi3 f + 1
theorem meet0 (f g : FrP) : (meetL f g).getD 0 0 = f.st ∧ (meetL f g).getD 1 0 = g.st ∧ 1 < (meetL f g).length := by
 unfold meetL
 by_cases h1 : f.vel = 0 <;> by_cases h2 : g.vel = 0 <;> by_cases h3 : f.vel = g.vel <;> simp only [h1, h2, h3, if_true, if_false] <;> (try split) <;> simp
theorem meet2 {f g : FrP} (h : f.vel ≠ 0) : (meetL f g).getD 2 0 = f.st + gapQ f g / f.vel ∧ 2 < (meetL f g).length := by
 unfold meetL
 by_cases h2 : g.vel = 0 <;> by_cases h3 : f.vel = g.vel <;> simp only [h, h2, h3, if_true, if_false] <;> (try split) <;> simp_all
theorem meet3 {f g : FrP} (h : g.vel ≠ 0) : (meetL f g).getD (mi3 f) 0 = g.st - gapQ f g / g.vel ∧ mi3 f < (meetL f g).length ∧ mi4 f g = mi3 f + 1 := by
 unfold meetL mi4 mi3
 by_cases h2 : f.vel = 0 <;> by_cases h3 : f.vel = g.vel <;> simp only [h, h2, h3, if_true, if_false] <;> (try split) <;> simp_all
theorem meet4 {f g : FrP} (h : f.vel ≠ g.vel) : (meetL f g).getD (mi4 f g) 0 = (gapQ f g + (f.vel * f.st - g.vel * g.st)) / (f.vel - g.vel) ∧ mi4 f g < (meetL f g).length ∧ (meetL f g).length = mi4 f g + 1 := by
 unfold meetL mi4 mi3
 by_cases h2 : f.vel = 0 <;> by_cases h3 : g.vel = 0 <;> simp only [h, h2, h3, if_true, if_false] <;> (try split) <;> simp_all
theorem meet5 {f g : FrP} (h : f.vel = g.vel) : (meetL f g).length = mi4 f g := by
 unfold meetL mi4 mi3
 by_cases h2 : f.vel = 0 <;> by_cases h3 : g.vel = 0 <;> simp_all
abbrev encT (l : List Rat) (k : Nat) : List Value := [str (numS (l.getD k 0))]
set_option maxHeartbeats 8000000 in
theorem meet_iter (f g : FrP) (hf : f.OK) (hg : g.OK) (hz : MeetZ f g) (b1 b2 : Nat) :
  IterG Tryz.prog 196 [selfP b1, selfP b2] (meetL f g).length (encT (meetL f g)) (fun _ => MeetN b1 b2 f g) := by
 refine ⟨fun y J Jx hN hB hY W hJ => ?_⟩
 have hG : ∀ k, Grows (J k) := fun k W W' h hb => hB k W W' h hb
 have hdr : ∀ k W, J k W → J k { W with drawn := W.drawn + 1 } := fun k W h => hB k W _ h ⟨rfl, rfl, rfl, Nat.le_refl _, fun _ _ => rfl⟩
 obtain ⟨e0, e1, l1⟩ := meet0 f g
 have hY0 : ∀ W, J 0 W → YieldAt (Fw none) 0 Tryz.prog y [str (numS f.st)].toArray W fun e W' => (e = .returned (.bool true) ∧ J 1 W') ∨ (e = .returned (.bool false) ∧ Jx W') := fun W h => by
  have := hY 0 W (by omega) h
  rwa [encT, e0] at this
 have hY1 : ∀ W, J 1 W → YieldAt (Fw none) 0 Tryz.prog y [str (numS g.st)].toArray W fun e W' => (e = .returned (.bool true) ∧ J 2 W') ∨ (e = .returned (.bool false) ∧ Jx W') := fun W h => by
  have := hY 1 W (by omega) h
  rwa [encT, e1] at this
 refine iter_enter (args := [.func (.yield y) #[] #[], selfP b1, selfP b2]) (J0 := J 0) Tryz.func196 rfl rfl rfl hJ ?_
 refine zA (zA (zB (wP rfl (wP rfl ?_))))
 refine wl_load rfl rfl rfl rfl (fun W hp => RowAt.load 4 tH rfl ((fun W hp => (hN 0 W hp).f) W hp) rfl) ?_
 refine wl_yield (A1 := J 1) (A2 := Jx) rfl rfl rfl rfl rfl rfl hY0 ?_ ?_
 rotate_left
 ·refine wP rfl (wP rfl ?_)
  iterate 5 refine wl_skip rfl rfl ?_
  refine wP rfl (zC (zE (zR rfl (zO (zP ?_)))))
  exact ne_iter_stop rfl (fun W h => h)
 refine wP rfl (wP rfl (wP rfl (wP rfl ?_)))
 refine wl_load rfl rfl rfl rfl (fun W hp => RowAt.load 4 tH rfl ((fun W hp => (hN 1 W hp).g) W hp) rfl) ?_
 refine wl_yield (A1 := J 2) (A2 := Jx) rfl rfl rfl rfl rfl rfl hY1 ?_ ?_
 rotate_left
 ·refine wP rfl (wP rfl (zC (zE (zR rfl (zO (zP ?_))))))
  exact ne_iter_stop rfl (fun W h => h)
 refine wP rfl (wP rfl (wl_nil (zE (zS rfl (zI (zE (zA ?_)))))))
 refine wc_draw 6 (hdr 2) Tryz.mixed (by kernel_rfl) rfl ?_
 refine wq_load rfl rfl rfl rfl (fun W hp => RowAt.load 0 tH rfl ((fun W hp => (hN 2 W hp).f) W hp) rfl) ?_
 refine wq_callA (hG 2) rfl rfl rfl rfl rfl rfl (by kernel_rfl) (fun W hp => fvelocity_gives f hf W (hN 2 W hp).v (hN 2 W hp).t) ?_
 refine wq_load rfl rfl rfl rfl (fun W hp => RowAt.load 0 tH rfl ((fun W hp => (hN 2 W hp).g) W hp) rfl) ?_
 refine wq_callA (hG 2) rfl rfl rfl rfl rfl rfl (by kernel_rfl) (fun W hp => fvelocity_gives g hg W (hN 2 W hp).v (hN 2 W hp).t) ?_
 refine qP rfl (qP rfl (wq_nil (wl_nil (zE (zA ?_)))))
 refine wc_draw 8 (hdr 2) Tryz.mixed (by kernel_rfl) rfl ?_
 refine qP rfl ?_
 refine wq_load rfl rfl rfl rfl (fun W hp => RowAt.load 1 tH rfl ((fun W hp => (hN 2 W hp).g) W hp) rfl) ?_
 refine wq_callA (hG 2) rfl rfl rfl rfl rfl rfl (by kernel_rfl) (fun W hp => fwhole_gives g.pos hg.pos64 W (hN 2 W hp).t) ?_
 refine qP rfl ?_
 refine wq_load rfl rfl rfl rfl (fun W hp => RowAt.load 1 tH rfl ((fun W hp => (hN 2 W hp).f) W hp) rfl) ?_
 refine wq_callA (hG 2) rfl rfl rfl rfl rfl rfl (by kernel_rfl) (fun W hp => fwhole_gives f.pos hf.pos64 W (hN 2 W hp).t) ?_
 refine wq_callA (hG 2) rfl rfl rfl rfl rfl rfl (by kernel_rfl) (fun W hp => fsub_gives (g.pos : Rat) (f.pos : Rat) (sz2 hg.posz hf.posz (by decide)) W (hN 2 W hp).v (hN 2 W hp).t) ?_
 refine qP rfl (wq_nil (wl_nil (zE (zA (zA ?_)))))
 -- the first one's velocity
 refine wc_cutA (X := Bool) (fun s => [(0, .func (.yield y) #[] #[]), (1, selfP b1), (2, selfP b2), (4, str (numS f.vel)), (5, str (numS g.vel)), (6, str (numS (gapQ f g))), (42, .bool s)]) (fun s => match s with | true => Jx | false => J (mi3 f)) (fun _ => True) ?_ ?_
 ·skip
  refine wc_draw 10 (hdr 2) Tryz.mixed (by kernel_rfl) rfl ?_
  refine qP rfl (qP rfl ?_)
  by_cases h : f.vel = 0
  ·refine wq_upd 31 (.bool false) rfl (congrArg Value.bool (by show (!_) = false; rw [strEqB, numS_eq0, decide_eq_true h]; rfl)) ?_
   refine qP rfl ?_
   iterate 7 refine wq_skip rfl rfl ?_
   refine zD ?_
   iterate 2 refine wl_skip rfl rfl ?_
   refine wP rfl (zC ?_)
   exact ne_cutA false trivial ⟨rfl, rfl, rfl, rfl, rfl, rfl, rfl, trivial⟩ (fun W hp => by show J (mi3 f) W; rw [mi3, if_pos h]; exact hp)
  ·refine wq_upd 31 (.bool true) rfl (congrArg Value.bool (by show (!_) = true; rw [strEqB, numS_eq0, decide_eq_false h]; rfl)) ?_
   obtain ⟨e2, l2⟩ := meet2 (g := g) h
   have hY2 : ∀ W, J 2 W → YieldAt (Fw none) 0 Tryz.prog y [str (numS (f.st + gapQ f g / f.vel))].toArray W fun e W' => (e = .returned (.bool true) ∧ J 3 W') ∨ (e = .returned (.bool false) ∧ Jx W') := fun W h => by
    have := hY 2 W (by omega) h
    rwa [encT, e2] at this
   refine qP rfl (qP rfl (qP rfl ?_))
   refine wq_load rfl rfl rfl rfl (fun W hp => RowAt.load 4 tH rfl ((fun W hp => (hN 2 W hp).f) W hp) rfl) ?_
   refine qP rfl (qP rfl ?_)
   refine wq_callA (hG 2) rfl rfl rfl rfl rfl rfl (by kernel_rfl) (fun W hp => fdiv_gives (gapQ f g) f.vel (hz.d1 h) (by rwa [ne_eq, Rat.num_eq_zero]) W (hN 2 W hp).v (hN 2 W hp).t) ?_
   refine wq_callA (hG 2) rfl rfl rfl rfl rfl rfl (by kernel_rfl) (fun W hp => fadd_gives f.st (gapQ f g / f.vel) (hz.a1 h) W (hN 2 W hp).v (hN 2 W hp).t) ?_
   refine wq_nil ?_
   refine wl_yield (A1 := J 3) (A2 := Jx) rfl rfl rfl rfl rfl rfl hY2 ?_ ?_
   ·refine wP rfl (wP rfl (zC ?_))
    exact ne_cutA false trivial ⟨rfl, rfl, rfl, rfl, rfl, rfl, rfl, trivial⟩ (fun W hp => by show J (mi3 f) W; rw [mi3, if_neg h]; exact hp)
   ·refine wP rfl (wP rfl (zC ?_))
    exact ne_cutA true trivial ⟨rfl, rfl, rfl, rfl, rfl, rfl, rfl, trivial⟩ (fun W hp => hp)
 rintro (_ | _) _
 rotate_left
 ·refine zR rfl (zO (zP ?_))
  exact ne_iter_stop rfl (fun W h => h)
 -- the second one's
 refine zS rfl (zI (zE (zA (zA ?_))))
 refine wc_cutA (X := Bool) (fun s => [(0, .func (.yield y) #[] #[]), (1, selfP b1), (2, selfP b2), (4, str (numS f.vel)), (5, str (numS g.vel)), (6, str (numS (gapQ f g))), (55, .bool s)]) (fun s => match s with | true => Jx | false => J (mi4 f g)) (fun _ => True) ?_ ?_
 ·skip
  refine wc_draw 10 (hdr (mi3 f)) Tryz.mixed (by kernel_rfl) rfl ?_
  refine qP rfl (qP rfl ?_)
  by_cases h : g.vel = 0
  ·refine wq_upd 44 (.bool false) rfl (congrArg Value.bool (by show (!_) = false; rw [strEqB, numS_eq0, decide_eq_true h]; rfl)) ?_
   refine qP rfl ?_
   iterate 7 refine wq_skip rfl rfl ?_
   refine zD ?_
   iterate 2 refine wl_skip rfl rfl ?_
   refine wP rfl (zC ?_)
   exact ne_cutA false trivial ⟨rfl, rfl, rfl, rfl, rfl, rfl, rfl, trivial⟩ (fun W hp => by show J (mi4 f g) W; rw [mi4, if_pos h]; exact hp)
  ·refine wq_upd 44 (.bool true) rfl (congrArg Value.bool (by show (!_) = true; rw [strEqB, numS_eq0, decide_eq_false h]; rfl)) ?_
   obtain ⟨e3, l3, l3'⟩ := meet3 (f := f) h
   have hY3 : ∀ W, J (mi3 f) W → YieldAt (Fw none) 0 Tryz.prog y [str (numS (g.st - gapQ f g / g.vel))].toArray W fun e W' => (e = .returned (.bool true) ∧ J (mi3 f + 1) W') ∨ (e = .returned (.bool false) ∧ Jx W') := fun W h => by
    have := hY (mi3 f) W l3 h
    rwa [encT, e3] at this
   refine qP rfl (qP rfl (qP rfl ?_))
   refine wq_load rfl rfl rfl rfl (fun W hp => RowAt.load 4 tH rfl ((fun W hp => (hN _ W hp).g) W hp) rfl) ?_
   refine qP rfl (qP rfl ?_)
   refine wq_callA (hG _) rfl rfl rfl rfl rfl rfl (by kernel_rfl) (fun W hp => fdiv_gives (gapQ f g) g.vel (hz.d2 h) (by rwa [ne_eq, Rat.num_eq_zero]) W (hN _ W hp).v (hN _ W hp).t) ?_
   refine wq_callA (hG _) rfl rfl rfl rfl rfl rfl (by kernel_rfl) (fun W hp => fsub_gives g.st (gapQ f g / g.vel) (hz.a2 h) W (hN _ W hp).v (hN _ W hp).t) ?_
   refine wq_nil ?_
   refine wl_yield (A1 := J (mi3 f + 1)) (A2 := Jx) rfl rfl rfl rfl rfl rfl hY3 ?_ ?_
   ·refine wP rfl (wP rfl (zC ?_))
    exact ne_cutA false trivial ⟨rfl, rfl, rfl, rfl, rfl, rfl, rfl, trivial⟩ (fun W hp => by show J (mi4 f g) W; rw [l3']; exact hp)
   ·refine wP rfl (wP rfl (zC ?_))
    exact ne_cutA true trivial ⟨rfl, rfl, rfl, rfl, rfl, rfl, rfl, trivial⟩ (fun W hp => hp)
 rintro (_ | _) _
 rotate_left
 ·refine zR rfl (zO (zP ?_))
  exact ne_iter_stop rfl (fun W h => h)
 -- where both move
 refine zS rfl (zI (zE (zA (zB (wP rfl (wP rfl (wP rfl ?_)))))))
 by_cases h : f.vel = g.vel
 ·refine wl_upd 58 (.bool false) rfl (congrArg Value.bool (by show (!_) = false; rw [strEqB, decide_eq_true (by rw [h])]; rfl)) ?_
  refine zC (zE (zS rfl (zI ?_)))
  exact ne_iter rfl fun W hp => by rw [meet5 h]; exact hp
 ·refine wl_upd 58 (.bool true) rfl (congrArg Value.bool (by show (!_) = true; rw [strEqB, decide_eq_false fun e => h (numS_inj.1 e)]; rfl)) ?_
  obtain ⟨e4, l4, l5⟩ := meet4 h
  have hY4 : ∀ W, J (mi4 f g) W → YieldAt (Fw none) 0 Tryz.prog y [str (numS ((gapQ f g + (f.vel * f.st - g.vel * g.st)) / (f.vel - g.vel)))].toArray W fun e W' => (e = .returned (.bool true) ∧ J (mi4 f g + 1) W') ∨ (e = .returned (.bool false) ∧ Jx W') := fun W h => by
   have := hY (mi4 f g) W l4 h
   rwa [encT, e4] at this
  refine zC (zE (zR rfl ?_))
  refine wc_draw 16 (hdr (mi4 f g)) Tryz.mixed (by kernel_rfl) rfl ?_
  refine qP rfl (qP rfl (qP rfl (qP rfl ?_)))
  refine wq_load rfl rfl rfl rfl (fun W hp => RowAt.load 4 tH rfl ((fun W hp => (hN _ W hp).f) W hp) rfl) ?_
  refine wq_callA (hG _) rfl rfl rfl rfl rfl rfl (by kernel_rfl) (fun W hp => fmul_gives f.vel f.st hz.m1 W (hN _ W hp).v (hN _ W hp).t) ?_
  refine qP rfl (qP rfl ?_)
  refine wq_load rfl rfl rfl rfl (fun W hp => RowAt.load 4 tH rfl ((fun W hp => (hN _ W hp).g) W hp) rfl) ?_
  refine wq_callA (hG _) rfl rfl rfl rfl rfl rfl (by kernel_rfl) (fun W hp => fmul_gives g.vel g.st hz.m2 W (hN _ W hp).v (hN _ W hp).t) ?_
  refine wq_callA (hG _) rfl rfl rfl rfl rfl rfl (by kernel_rfl) (fun W hp => fsub_gives (f.vel * f.st) (g.vel * g.st) hz.s W (hN _ W hp).v (hN _ W hp).t) ?_
  refine wq_callA (hG _) rfl rfl rfl rfl rfl rfl (by kernel_rfl) (fun W hp => fadd_gives (gapQ f g) (f.vel * f.st - g.vel * g.st) hz.a W (hN _ W hp).v (hN _ W hp).t) ?_
  refine qP rfl (qP rfl ?_)
  refine wq_callA (hG _) rfl rfl rfl rfl rfl rfl (by kernel_rfl) (fun W hp => fsub_gives f.vel g.vel hz.w W (hN _ W hp).v (hN _ W hp).t) ?_
  refine wq_callA (hG _) rfl rfl rfl rfl rfl rfl (by kernel_rfl) (fun W hp => fdiv_gives (gapQ f g + (f.vel * f.st - g.vel * g.st)) (f.vel - g.vel) (hz.d h) (by rw [ne_eq, Rat.num_eq_zero]; grind) W (hN _ W hp).v (hN _ W hp).t) ?_
  refine wq_nil ?_
  refine wl_yield (A1 := J (mi4 f g + 1)) (A2 := Jx) rfl rfl rfl rfl rfl rfl hY4 ?_ ?_
  ·refine zC ?_
   exact ne_iter rfl fun W hp => by rw [l5]; exact hp
  ·refine zC ?_
   exact ne_iter_stopn rfl (fun W h => h)
end Go.Proofs.YtlagebbefnnnnaaGreatDoor
namespace Go.Proofs.YtlagebbefnnnnaaGreatDoor
theorem insQ_split {x : Rat} : ∀ (s : List Rat) (j : Nat), j ≤ s.length → (∀ y ∈ s.take j, ¬ x < y) → (∀ y ∈ s.drop j, x < y) → insQ x s = s.take j ++ x :: s.drop j
 | [], j, hj, _, _ => by
  obtain rfl : j = 0 := by simpa using hj
  rfl
 | y :: l, 0, _, _, h2 => by
  unfold insQ
  rw [if_pos (h2 y (List.mem_cons_self ..))]; rfl
 | y :: l, j + 1, hj, h1, h2 => by
  unfold insQ
  rw [if_neg (h1 y (by simp)), insQ_split l j (by simpa using hj) (fun z hz => h1 z (by simp [hz])) (fun z hz => h2 z (by simpa using hz))]
  rfl
theorem sortQ_len (l : List Rat) : (sortQ l).length = l.length := by
 have : ∀ (l s : List Rat), (l.foldl (fun s x => insQ x s) s).length = l.length + s.length := by
  intro l
  induction l with
  | nil => exact fun s => by simp
  | cons x l ih => exact fun s => by rw [List.foldl_cons, ih, insQ_len, List.length_cons]; omega
 rw [sortQ, this]; simp
theorem sortQ_take (l : List Rat) {i : Nat} (hi : i < l.length) : sortQ (l.take (i + 1)) = insQ l[i] (sortQ (l.take i)) := by
 rw [sortQ, List.take_add_one, List.getElem?_eq_getElem hi, List.foldl_append]; rfl
theorem ins_done {x : Rat} {s : List Rat} {j : Nat} (hs : s.Pairwise (· ≤ ·)) (hj : j ≤ s.length) (h2 : ∀ y ∈ s.drop j, x < y) (h1 : ∀ (h : 0 < j), ¬ x < s[j - 1]) : insQ x s = s.take j ++ x :: s.drop j := by
 refine insQ_split s j hj (fun y hy => ?_) h2
 obtain ⟨k, hk, rfl⟩ := List.getElem_of_mem hy
 have hk' : k < j := by simp at hk; omega
 rw [List.getElem_take]
 have h3 := h1 (by omega)
 refine Rat.not_lt.2 (Rat.le_trans ?_ (Rat.not_lt.1 h3))
 by_cases e : k = j - 1
 ·subst e; exact Rat.le_refl
 ·exact List.pairwise_iff_getElem.1 hs k (j - 1) (by omega) (by omega) (by omega)
theorem compQ_nil : compQ [] = [] := by rw [compQ]
theorem compQ_one (x : Rat) : compQ [x] = [x] := by rw [compQ]
theorem compQ_cons (x y : Rat) (l : List Rat) : compQ (x :: y :: l) = if y = x then compQ (x :: l) else x :: compQ (y :: l) := by rw [compQ]
theorem compQ_two (x y : Rat) : compQ [x, y] = if y = x then compQ [x] else compQ [x] ++ [y] := by
 rw [compQ_cons]
 by_cases h : y = x
 ·rw [if_pos h, if_pos h]
 ·rw [if_neg h, if_neg h, compQ_one, compQ_one]; rfl
theorem compQ_snoc (l : List Rat) (x y : Rat) : compQ (l ++ [x, y]) = if y = x then compQ (l ++ [x]) else compQ (l ++ [x]) ++ [y] := by
 match l with
 | [] => exact compQ_two x y
 | [a] =>
  show compQ (a :: x :: [y]) = if y = x then compQ (a :: x :: []) else compQ (a :: x :: []) ++ [y]
  rw [compQ_cons a x [y], compQ_cons a x []]
  by_cases h2 : x = a
  ·rw [if_pos h2, if_pos h2]
   subst h2
   exact compQ_two x y
  ·rw [if_neg h2, if_neg h2, compQ_two x y]
   by_cases h : y = x
   ·rw [if_pos h, if_pos h]
   ·rw [if_neg h, if_neg h]; rfl
 | a :: b :: l =>
  show compQ (a :: b :: (l ++ [x, y])) = if y = x then compQ (a :: b :: (l ++ [x])) else compQ (a :: b :: (l ++ [x])) ++ [y]
  rw [compQ_cons a b (l ++ [x, y]), compQ_cons a b (l ++ [x])]
  by_cases h2 : b = a
  ·rw [if_pos h2, if_pos h2]
   exact compQ_snoc (a :: l) x y
  ·rw [if_neg h2, if_neg h2]
   have := compQ_snoc (b :: l) x y
   rw [List.cons_append, List.cons_append] at this
   rw [this]
   by_cases h : y = x
   ·rw [if_pos h, if_pos h]
   ·rw [if_neg h, if_neg h]; rfl
termination_by l.length
theorem upTo_comp (l : List Rat) : ∀ (m : Nat), m ≤ l.length → Lib.compactUpTo (l.map numS).toArray m = (compQ (l.take m)).map numS
 | 0, _ => by simp [Lib.compactUpTo, compQ]
 | m + 1, hm => by
  have hb : ∀ i (hi : i < l.length), (l.map numS).toArray[i]! = numS l[i] := fun i hi => by simp [hi]
  rw [Lib.compactUpTo_succ, upTo_comp l m (by omega), hb m (by omega)]
  have e1 : l.take (m + 1) = l.take m ++ [l[m]] := by rw [List.take_add_one, List.getElem?_eq_getElem hm]; rfl
  cases m with
  | zero =>
   rw [e1]
   have : Lib.keeps (l.map numS).toArray 0 = true := Lib.keeps_lt_one _ 0 (by omega)
   rw [if_pos this, List.take_zero, List.nil_append, compQ_nil, compQ_one]
   rfl
  | succ k =>
   have e2 : l.take (k + 1) = l.take k ++ [l[k]] := by rw [List.take_add_one, List.getElem?_eq_getElem (by omega)]; rfl
   rw [e1, e2, List.append_assoc]
   show _ = (compQ (l.take k ++ [l[k], l[k + 1]])).map numS
   rw [compQ_snoc]
   have h1 : Lib.keeps (l.map numS).toArray (k + 1) = decide (¬ l[k + 1] = l[k]) := by
    unfold Lib.keeps
    rw [decide_eq_decide, Nat.add_sub_cancel, hb (k + 1) hm, hb k (by omega)]
    constructor
    ·rintro (h | h)
     ·omega
     ·exact fun e => h (by rw [e])
    ·exact fun h => .inr fun e => h (numS_inj.1 e)
   rw [h1]
   by_cases h : l[k + 1] = l[k]
   ·rw [if_pos h, if_neg (by simp [h]), List.append_nil]
   ·rw [if_neg h, if_pos (by simp [h]), List.map_append]; rfl
theorem compact_comp (l : List Rat) : Lib.compact (l.map numS) = (compQ l).map numS := by
 have := upTo_comp l l.length (Nat.le_refl _)
 rw [List.take_length] at this
 rw [← this]
 unfold Lib.compact
 simp
end Go.Proofs.YtlagebbefnnnnaaGreatDoor
namespace Go.Proofs
open Go.Shelf
def Tryz.lays125_ren : Go.Shelf.Ren := ⟨fun | 125 => 161 | 128 => 231 | 129 => 232 | n => n, fun | 3 => 3 | 4 => 4 | 5 => 5 | 9 => 9 | 46 => 205 | 51 => 261 | 53 => 263 | n => n, fun n => n⟩
theorem Tryz.lays125 : Go.Proofs.Lays.n125 Tryz.prog Tryz.lays125_ren := {
 mixed := by kernel_rfl
 f125 := Tryz.func161.trans (congrArg some (by kernel_rfl))
 f128 := Tryz.func231.trans (congrArg some (by kernel_rfl))
 f129 := Tryz.func232.trans (congrArg some (by kernel_rfl))
 t3 := Tryz.underlying3
 a3 := Tryz.isAgg3
 z3 := Tryz.sizeOf3
 v3 := Tryz.zeroValue3
 t4 := Tryz.underlying4
 a4 := Tryz.isAgg4
 z4 := Tryz.sizeOf4
 v4 := Tryz.zeroValue4
 t5 := Tryz.underlying5
 a5 := Tryz.isAgg5
 z5 := Tryz.sizeOf5
 v5 := Tryz.zeroValue5
 t9 := Tryz.underlying9
 a9 := Tryz.isAgg9
 z9 := Tryz.sizeOf9
 v9 := Tryz.zeroValue9
 t46 := Tryz.underlying205
 a46 := Tryz.isAgg205
 z46 := Tryz.sizeOf205
 v46 := Tryz.zeroValue205
 t51 := Tryz.underlying261
 a51 := Tryz.isAgg261
 z51 := Tryz.sizeOf261
 v51 := Tryz.zeroValue261
 t53 := Tryz.underlying263
 a53 := Tryz.isAgg263
 z53 := Tryz.sizeOf263
 v53 := Tryz.zeroValue263 }
def Tryz.laysN44_ren : Go.Shelf.Ren := ⟨fun | 44 => 129 | n => n, fun | 0 => 0 | 3 => 3 | 4 => 4 | 25 => 50 | 26 => 37 | n => n, fun n => n⟩
theorem Tryz.laysN44 : Go.Proofs.SlLaysN.n44 Tryz.prog Tryz.laysN44_ren := {
 mixed := by kernel_rfl
 f44 := ⟨Tryz.f129.name, by kernel_rfl, Tryz.func129.trans (congrArg some (by kernel_rfl))⟩
 t0 := Tryz.underlying0
 a0 := Tryz.isAgg0
 z0 := Tryz.sizeOf0
 v0 := Tryz.zeroValue0
 t3 := Tryz.underlying3
 a3 := Tryz.isAgg3
 z3 := Tryz.sizeOf3
 v3 := Tryz.zeroValue3
 t4 := Tryz.underlying4
 a4 := Tryz.isAgg4
 z4 := Tryz.sizeOf4
 v4 := Tryz.zeroValue4
 t25 := Tryz.underlying50
 a25 := Tryz.isAgg50
 z25 := Tryz.sizeOf50
 v25 := Tryz.zeroValue50
 t26 := Tryz.underlying37
 a26 := Tryz.isAgg37
 z26 := Tryz.sizeOf37
 v26 := Tryz.zeroValue37
 i26 := by kernel_rfl }
end Go.Proofs
namespace Go.Proofs.YtlagebbefnnnnaaGreatDoor
open Go Go.RowKit Go.Am Go.Lib
set_option maxRecDepth 10000
-- BOXES 3
abbrev nS (l : List Rat) : List Value := l.map fun q => str (numS q)
def CmpOK (cf : Nat) : Prop := entersB Tryz.prog cf = true ∧ ∀ (p q : Rat) (W : World), Sz2 p q → MaxP W → TabP W → CallsR Tryz.prog cf #[str (numS p), str (numS q)] W (fun _ : Unit => .int .i64 (cmpQ p q)) (fun _ => True) (fun _ => [])
structure Keep (W W' : World) (g : Nat) : Prop where
 os : W'.os = W.os
 tape : W'.tape = W.tape
 output : W'.output = W.output
 size : W.heap.size ≤ W'.heap.size
 at_ : ∀ x, x ≠ g → x < W.heap.size → W'.heap[x]? = W.heap[x]?
theorem keep_of {W W' : World} {g : Nat} {B : Bx} {o : Obj} (hg : W.heap[g]? = some o) (hB : ∃ o', (g, o') ∈ B.blk) (hp : Hp (noHeap W) [grpB (othersL W g), B] W') : Keep W W' g := by
 have c0 : ∀ p ∈ othersL W g, W'.heap[p.1]? = some p.2 := fun p hq => (hp.own.cell 0 _ rfl p hq).1
 have old : ∀ x, x ≠ g → x < W.heap.size → W'.heap[x]? = W.heap[x]? := fun x hx hlt => by
  have h1 : W.heap[x]? = some W.heap[x] := Array.getElem?_eq_getElem hlt
  rw [h1]
  exact c0 (x, W.heap[x]) (mem_others.2 ⟨hx, h1⟩)
 refine ⟨hp.below.os, hp.below.tape, hp.below.output, ?_, old⟩
 have hlt := (Array.getElem?_eq_some_iff.1 hg).1
 by_cases e : W.heap.size - 1 = g
 ·obtain ⟨o', ho⟩ := hB
  have := (Array.getElem?_eq_some_iff.1 (hp.own.cell 1 B rfl _ ho).1).1
  have h2 : g < W'.heap.size := this
  omega
 ·have h1 := old (W.heap.size - 1) e (by omega)
  rw [Array.getElem?_eq_getElem (show W.heap.size - 1 < W.heap.size by omega)] at h1
  have := (Array.getElem?_eq_some_iff.1 h1).1
  omega
theorem Keep.trans {W W1 W2 : World} {g : Nat} (h : Keep W W1 g) (h' : Keep W1 W2 g) : Keep W W2 g :=
 ⟨h'.os.trans h.os, h'.tape.trans h.tape, h'.output.trans h.output, Nat.le_trans h.size h'.size, fun x hx hlt => (h'.at_ x hx (Nat.lt_of_lt_of_le hlt h.size)).trans (h.at_ x hx hlt)⟩
theorem Keep.below {W0 W W' : World} {g : Nat} (hk : Keep W W' g) (hb : Below W0.heap.size W0 W) (hg : W0.heap.size ≤ g) : Below W0.heap.size W0 W' :=
 ⟨hk.os.trans hb.os, hk.tape.trans hb.tape, hk.output.trans hb.output, Nat.le_trans hb.size hk.size, fun i hi => (hk.at_ i (by omega) (Nat.lt_of_lt_of_le hi hb.size)).trans (hb.block i hi)⟩
theorem row_pt {W0 W : World} {bxs : List Bx} (hp : Hp W0 bxs W) (k : Nat) {g : Nat} {e : TypeId} {xs A B C : List Value} {off : Nat} (hk : nth bxs k = some ⟨g, e, xs, true, none⟩) (hxs : xs = A ++ (B ++ C)) (hoff : off = A.length) : RowAt W g off B := by
 have h := RowAt.of_bx hp k hk rfl
 refine ⟨h.lt, fun m u hu => ?_⟩
 have := h.get (A.length + m) u (by
  show xs[A.length + m]? = some u
  rw [hxs, List.getElem?_append_right (by omega), Nat.add_sub_cancel_left, List.getElem?_append_left (List.getElem?_eq_some_iff.1 hu).1]
  exact hu)
 rw [Nat.zero_add, ← hoff] at this
 exact this
theorem wc_bx {r : Option Nat} {n : Nat} {P : Program} {W0 : World} {N : Nat} {D : List Deferred} {c : Code} {Q : Exit → Act → World → Prop} {env : Env} {bxs bxs' : List Bx} (e : bxs = bxs') (h : WC r n P N D c Q env (Hp W0 bxs')) : WC r n P N D c Q env (Hp W0 bxs) := e ▸ h
abbrev rowQ (g : Nat) (l : List Rat) (junk : List Value) : Bx := ⟨g, 37, nS l ++ junk, true, none⟩
theorem take1_sort (l : List Rat) : sortQ (l.take 1) ++ l.drop 1 = l := by
 cases l with
 | nil => rfl
 | cons x l => rfl
set_option maxHeartbeats 8000000 in
theorem insN_gives (cf : Nat) (hcf : CmpOK cf) (W : World) (g cap : Nat) (l : List Rat) (junk : List Value) (hn : l.length < 4611686018427387904) (hg : W.heap[g]? = some (.cells (nS l ++ junk).toArray 37 (0, 0)))
  (hf : ∀ W', Keep W W' g → MaxP W' ∧ TabP W') (hz : ∀ p ∈ l, ∀ q ∈ l, Sz2 p q) :
  Calls Tryz.prog 254 #[.slice (some ⟨g, 0, none⟩) l.length cap, .int .i64 0, .int .i64 (l.length : Nat), .func (.func cf) #[] #[]] W fun e W' => ∃ x : Unit, e = .returned ((fun _ => .tuple #[]) x) ∧ True ∧ Near W W' g ((fun _ => g) x) ((fun _ => .cells (nS (sortQ l) ++ junk).toArray 37 (0, 0)) x) := by
 have key : Calls Tryz.prog 254 [.slice (some ⟨g, 0, none⟩) l.length cap, .int .i64 0, .int .i64 (l.length : Nat), .func (.func cf) #[] #[]].toArray W fun e W' => ∃ x : Unit, e = .returned ((fun _ => .tuple #[]) x) ∧ (fun _ => True) x ∧ Below (noHeap W).heap.size (noHeap W) W' ∧ NewBx (noHeap W) W' ((fun _ => [grpB (othersL W g), rowQ g (sortQ l) junk]) x) := by
  refine calls_enterT (X := Unit) (val := fun _ => .tuple #[]) (Φ := fun _ => True) (nb := fun _ => [grpB (othersL W g), rowQ g (sortQ l) junk]) (Hp.enterT (B := rowQ g l junk) rfl hg) Tryz.func254 rfl rfl rfl ?_
  refine zA (zB (wP rfl (wP rfl (wP rfl (wl_nil (zE (zH ?_)))))))
  refine wc_loop (X := Nat) (fun i => [(0, .slice (some ⟨g, 0, none⟩) l.length cap), (1, .int .i64 0), (2, .int .i64 (l.length : Nat)), (3, .func (.func cf) #[] #[]), (8, .int .i64 (i : Nat))]) (fun i => [grpB (othersL W g), rowQ g (sortQ (l.take i) ++ l.drop i) junk])
   (fun i => 1 ≤ i ∧ (i ≤ l.length ∨ i = 1)) (fun i => l.length + 1 - i) 1 ⟨Nat.le_refl _, .inr rfl⟩ ⟨rfl, rfl, rfl, rfl, rfl, trivial⟩ [] (by rw [take1_sort]; rfl) ?_
  rintro i ⟨hi1, hi2⟩
  refine zA (zA (zB (wP rfl (wP rfl (wP rfl ?_)))))
  by_cases hlt : i < l.length
  rotate_left
  ·refine wl_upd 14 (.bool false) rfl (congrArg Value.bool (decide_eq_false (by omega))) ?_
   refine wl_nil (zE (zS rfl (zJ (zK (zK (zL ?_))))))
   have e : sortQ (l.take i) ++ l.drop i = sortQ l := by rw [List.take_of_length_le (by omega), List.drop_of_length_le (by omega), List.append_nil]
   refine ne_end0 (X := Unit) (val := fun _ => .tuple #[]) (Φ := fun _ => True) (nb := fun _ => [grpB (othersL W g), rowQ g (sortQ l) junk]) (fn := Tryz.f254) tH rfl () rfl trivial fun W1 hp => ?_
   rw [e] at hp
   exact (hp.pick (l := [grpB (othersL W g), rowQ g (sortQ l) junk]) [0, 1] (by decide) rfl).own
  refine wl_upd 14 (.bool true) rfl (congrArg Value.bool (decide_eq_true (by omega))) ?_
  refine wl_nil (zE (zR rfl (zI (zE (zA (zH (zA (zB (wP rfl (wP rfl (wl_nil (zE (zH ?_)))))))))))))
  obtain ⟨s, hs⟩ : ∃ s, s = sortQ (l.take i) := ⟨_, rfl⟩
  obtain ⟨x, hx⟩ : ∃ x, x = l[i] := ⟨_, rfl⟩
  obtain ⟨rr, hr⟩ : ∃ rr, rr = l.drop (i + 1) := ⟨_, rfl⟩
  have hsl : s.length = i := by rw [hs, sortQ_len, List.length_take]; omega
  have hsort : s.Pairwise (· ≤ ·) := hs ▸ sortQ_sorted _
  have hdrop : l.drop i = x :: rr := by rw [hx, hr]; exact List.drop_eq_getElem_cons hlt
  have hrl : rr.length = l.length - (i + 1) := by rw [hr, List.length_drop]
  have hxl : x ∈ l := hx ▸ List.getElem_mem hlt
  have hsm : ∀ y ∈ s, y ∈ l := fun y hy => by rw [hs] at hy; exact List.mem_of_mem_take (mem_sortQ.1 hy)
  have hnext : ∀ j, j ≤ s.length → (∀ y ∈ s.drop j, x < y) → (∀ (h : 0 < j), ¬ x < s[j - 1]!) → s.take j ++ x :: s.drop j ++ rr = sortQ (l.take (i + 1)) ++ l.drop (i + 1) := fun j h1 h2 h3 => by
   rw [sortQ_take l hlt, ← hs, ← hx, ← hr, ins_done hsort h1 h2 fun h => by have := h3 h; rwa [getElem!_pos s (j - 1) (by omega)] at this]
  refine wc_loop (X := Nat) (fun j => [(0, .slice (some ⟨g, 0, none⟩) l.length cap), (1, .int .i64 0), (2, .int .i64 (l.length : Nat)), (3, .func (.func cf) #[] #[]), (8, .int .i64 (i : Nat)), (9, .int .i64 (j : Nat))]) (fun j => [grpB (othersL W g), rowQ g (s.take j ++ x :: s.drop j ++ rr) junk])
   (fun j => j ≤ s.length ∧ ∀ y ∈ s.drop j, x < y) (fun j => j) i ⟨by omega, by rw [← hsl, List.drop_length]; exact fun y hy => absurd hy List.not_mem_nil⟩ ⟨rfl, rfl, rfl, rfl, rfl, rfl, trivial⟩ [] (by rw [← hs, hdrop, ← hsl, List.take_length, List.drop_length, List.append_assoc]; rfl) ?_
  rintro j ⟨hj, hgt⟩
  have hj : j ≤ s.length := hj
  have hgt : ∀ y ∈ s.drop j, x < y := hgt
  refine zA (zA ?_)
  refine zT Tryz.mixed (by kernel_rfl) ?_
  refine qP rfl (qP rfl (qP rfl ?_))
  cases j with
  | zero =>
   refine wq_upd 20 (.bool false) rfl rfl ?_
   refine qP rfl ?_
   iterate 12 refine wq_skip rfl rfl ?_
   refine qP rfl (wq_nil (wl_nil (zE (zS rfl (zJ (zK (zK (zL (zN (zE (zB (wP rfl (wP rfl ?_)))))))))))))
   refine wl_upd 16 (.int .i64 ((i + 1 : Nat) : Int)) rfl (congrArg (Value.int .i64) (w64_succ (by omega))) ?_
   refine wP rfl (wl_nil ?_)
   refine ne_loop (i + 1) ⟨by show 1 ≤ i + 1; omega, .inl hlt⟩ (by show l.length + 1 - (i + 1) < l.length + 1 - i; omega) ⟨rfl, rfl, rfl, rfl, rfl, trivial⟩ [] ?_
   rw [hnext 0 hj hgt fun h => absurd h (by decide)]; rfl
  | succ m =>
   have hm : m < s.length := hj
   obtain ⟨y, hy⟩ : ∃ y, y = s[m] := ⟨_, rfl⟩
   have hyl : y ∈ l := hsm y (hy ▸ List.getElem_mem hm)
   have e1 : s.take (m + 1) = s.take m ++ [y] := by rw [List.take_add_one, List.getElem?_eq_getElem hm, hy]; rfl
   have e2 : s.drop m = y :: s.drop (m + 1) := by rw [hy]; exact List.drop_eq_getElem_cons hm
   have e3 : s[m + 1 - 1]! = y := by rw [Nat.add_sub_cancel, getElem!_pos s m hm, hy]
   have hA : (nS (s.take m)).length = m := by rw [List.length_map, List.length_take]; omega
   obtain ⟨C, hC⟩ : ∃ C, C = nS (s.drop (m + 1) ++ rr) ++ junk := ⟨_, rfl⟩
   have row1 : nS (s.take (m + 1) ++ x :: s.drop (m + 1) ++ rr) ++ junk = nS (s.take m) ++ ([str (numS y), str (numS x)] ++ C) := by rw [e1, hC]; simp [nS]
   have row2 : nS (s.take m ++ x :: s.drop m ++ rr) ++ junk = nS (s.take m) ++ ([str (numS x), str (numS y)] ++ C) := by rw [e2, hC]; simp [nS]
   refine wq_upd 20 (.bool true) rfl (congrArg Value.bool (decide_eq_true (by omega))) ?_
   refine qP rfl (qP rfl (qP rfl (qP rfl ?_)))
   refine qI rfl rfl (by omega) (by omega) ?_
   refine wq_load rfl rfl rfl rfl (fun W hp => RowAt.load 0 tH rfl ((fun W1 hp => show RowAt W1 g (0 + (m + 1) * 1) [str (numS x)] from row_pt hp 1 (A := nS (s.take m) ++ [str (numS y)]) (C := C) rfl (by rw [row1]; simp) (by rw [List.length_append, hA]; simp)) W hp) rfl) ?_
   refine qP rfl (qP rfl (qP rfl ?_))
   refine wq_upd 29 (.int .i64 (m : Nat)) rfl (congrArg (Value.int .i64) (show w64 (((m + 1 : Nat) : Int) - 1) = _ by rw [w64_id (by omega) (by omega)]; omega)) ?_
   refine qI rfl rfl (by omega) (by omega) ?_
   refine wq_load rfl rfl rfl rfl (fun W hp => RowAt.load 0 tH rfl ((fun W1 hp => show RowAt W1 g (0 + m * 1) [str (numS y)] from row_pt hp 1 (A := nS (s.take m)) (C := [str (numS x)] ++ C) rfl (by rw [row1]; simp) (by rw [hA]; simp)) W hp) rfl) ?_
   refine wq_call1 (capt := []) rfl rfl rfl rfl rfl rfl hcf.1 (fun W1 hp => (by
    obtain ⟨hv, ht⟩ := hf W1 (keep_of hg ⟨_, List.mem_cons_self ..⟩ hp)
    exact hcf.2 x y W1 (hz x hxl y hyl) hv ht)) ?_
   refine qP rfl ?_
   refine wq_upd 33 (.bool (decide (x < y))) rfl (congrArg Value.bool (cmpQ_lt0 x y)) ?_
   refine qP rfl (wq_nil (wl_nil (zE ?_)))
   refine wc_cond rfl (fun h => ?_) (fun h => ?_)
   rotate_left
   ·have hc : ¬ x < y := of_decide_eq_false h
    refine zJ (zK (zK (zL (zN (zE (zB (wP rfl (wP rfl ?_))))))))
    refine wl_upd 16 (.int .i64 ((i + 1 : Nat) : Int)) rfl (congrArg (Value.int .i64) (w64_succ (by omega))) ?_
    refine wP rfl (wl_nil ?_)
    refine ne_loop (i + 1) ⟨by show 1 ≤ i + 1; omega, .inl hlt⟩ (by show l.length + 1 - (i + 1) < l.length + 1 - i; omega) ⟨rfl, rfl, rfl, rfl, rfl, trivial⟩ [] ?_
    rw [hnext (m + 1) hj hgt fun _ => by rw [e3]; exact hc]; rfl
   have hc : x < y := of_decide_eq_true h
   clear h
   refine wc_bx (bxs' := [grpB (othersL W g), ⟨g, 37, nS (s.take m) ++ ([str (numS y), str (numS x)] ++ C), true, none⟩]) (by rw [← row1]) ?_
   refine zI (zE (wc_seq (wc_block ?_)))
   repeat refine wc_seq ?_
   refine wc_lateY (X := Unit) [true, true, false, false, false, true, true, true, true, true, true, true, true, true, true, false, false, false] (fun _ => [(0, .slice (some ⟨g, 0, none⟩) l.length cap), (1, .int .i64 0), (2, .int .i64 (l.length : Nat)), (3, .func (.func cf) #[] #[]), (8, .int .i64 (i : Nat)), (9, .int .i64 ((m + 1 : Nat) : Int))]) (fun _ => [grpB (othersL W g), ⟨g, 37, nS (s.take m) ++ ([str (numS x), str (numS y)] ++ C), true, none⟩])
    6 [grpB (othersL W g), ⟨g, 37, nS (s.take m) ++ ([str (numS y), str (numS x)] ++ C), true, none⟩] Tryz.mixed (by kernel_rfl) ?_ ?_
   ·refine qP rfl (qP rfl (qP rfl (qP rfl (qP rfl ?_))))
    refine wq_upd 44 (.int .i64 (m : Nat)) rfl (congrArg (Value.int .i64) (show w64 (((m + 1 : Nat) : Int) - 1) = _ by rw [w64_id (by omega) (by omega)]; omega)) ?_
    refine qI rfl rfl (by omega) (by omega) ?_
    refine wq_load rfl rfl rfl rfl (fun W hp => RowAt.load 0 tH rfl ((fun W1 hp => show RowAt W1 g (0 + m * 1) [str (numS y)] from row_pt hp 1 (A := nS (s.take m)) (C := [str (numS x)] ++ C) rfl (by simp) (by rw [hA]; simp)) W hp) rfl) ?_
    refine qP rfl (qP rfl ?_)
    refine qI rfl rfl (by omega) (by omega) ?_
    refine wq_load rfl rfl rfl rfl (fun W hp => RowAt.load 0 tH rfl ((fun W1 hp => show RowAt W1 g (0 + (m + 1) * 1) [str (numS x)] from row_pt hp 1 (A := nS (s.take m) ++ [str (numS y)]) (C := C) rfl (by simp) (by rw [List.length_append, hA]; simp)) W hp) rfl) ?_
    refine qI rfl rfl (by omega) (by omega) ?_
    refine wq_wt ?_
    have h1 : splice (nS (s.take m) ++ ([str (numS y), str (numS x)] ++ C)) (0 + (m + 1) * 1) (str (numS y)).cells.toList = nS (s.take m) ++ ([str (numS y), str (numS y)] ++ C) := by
     rw [show 0 + (m + 1) * 1 = (nS (s.take m)).length + 1 by rw [hA]; omega, splice_right]; rfl
    have h2 : splice (nS (s.take m) ++ ([str (numS y), str (numS y)] ++ C)) (0 + m * 1) (str (numS x)).cells.toList = nS (s.take m) ++ ([str (numS x), str (numS y)] ++ C) := by
     rw [show 0 + m * 1 = (nS (s.take m)).length + 0 by rw [hA]; omega, splice_right]; rfl
    refine wt_step rfl rfl (by ((repeat (first | refine Weak.same ?_ | refine Weak.off rfl ?_)); exact trivial)) ?_
    refine RS.cons ?_ (RS.cons ?_ (RS.cons ?_ (RS.nil)))
    ·refine wP rfl (wl_nil (ne_wt ?_))
     refine wt_step rfl rfl (by ((repeat (first | refine Weak.same ?_ | refine Weak.off rfl ?_)); exact trivial)) ?_
     refine RS.cons ?_ (RS.cons ?_ (RS.nil))
     ·refine wP rfl (wl_nil (ne_wt ?_))
      refine wt_step rfl rfl (by ((repeat (first | refine Weak.same ?_ | refine Weak.off rfl ?_)); exact trivial)) ?_
      refine RS.cons ?_ (RS.cons ?_ (RS.nil))
      ·refine wP rfl (wl_nil (ne_wt ?_))
       refine wt_step rfl rfl (by ((repeat (first | refine Weak.same ?_ | refine Weak.off rfl ?_)); exact trivial)) ?_
       refine RS.cons ?_ (RS.nil)
       refine wl_storeTo 1 _ tH rfl rfl rfl rfl rfl rfl rfl rfl rfl rfl (by show 0 + (m + 1) * 1 + 1 ≤ (nS (s.take m) ++ ([str (numS y), str (numS x)] ++ C)).length; rw [List.length_append, hA]; simp <;> omega) h1 ?_
       refine wl_nil (ne_wt ?_)
       refine wt_stepF rfl rfl (by kernel_rfl) ?_
       refine RS.cons ?_ (RS.nil)
       refine wl_upd 41 (.int .i64 (m : Nat)) rfl (congrArg (Value.int .i64) (show w64 (((m + 1 : Nat) : Int) - 1) = _ by rw [w64_id (by omega) (by omega)]; omega)) ?_; (first | refine wI rfl rfl (by omega) (by omega) ?_ | refine qI rfl rfl (by omega) (by omega) ?_)
       refine wl_nil (ne_wt ?_)
       refine wt_stepF rfl rfl (by kernel_rfl) ?_
       refine RS.cons ?_ (RS.nil)
       refine wl_storeTo 1 _ tH rfl rfl rfl rfl rfl rfl rfl rfl rfl rfl (by show 0 + m * 1 + 1 ≤ (nS (s.take m) ++ ([str (numS y), str (numS y)] ++ C)).length; rw [List.length_append, hA]; simp <;> omega) h2 ?_
       refine wl_nil (ne_wt ?_)
       refine wt_doneF rfl (by kernel_rfl) ?_
       exact ne_late () ⟨rfl, rfl, rfl, rfl, rfl, rfl, trivial⟩ [0, 1] (by decide) rfl
      ·refine wl_storeTo 1 _ tH rfl rfl rfl rfl rfl rfl rfl rfl rfl rfl (by show 0 + (m + 1) * 1 + 1 ≤ (nS (s.take m) ++ ([str (numS y), str (numS x)] ++ C)).length; rw [List.length_append, hA]; simp <;> omega) h1 ?_
       refine wl_nil (ne_wt ?_)
       refine wt_stepF rfl rfl (by kernel_rfl) ?_
       refine RS.cons ?_ (RS.nil)
       refine wP rfl (wl_nil (ne_wt ?_))
       refine wt_stepF rfl rfl (by kernel_rfl) ?_
       refine RS.cons ?_ (RS.nil)
       refine wl_upd 41 (.int .i64 (m : Nat)) rfl (congrArg (Value.int .i64) (show w64 (((m + 1 : Nat) : Int) - 1) = _ by rw [w64_id (by omega) (by omega)]; omega)) ?_; (first | refine wI rfl rfl (by omega) (by omega) ?_ | refine qI rfl rfl (by omega) (by omega) ?_)
       refine wl_nil (ne_wt ?_)
       refine wt_stepF rfl rfl (by kernel_rfl) ?_
       refine RS.cons ?_ (RS.nil)
       refine wl_storeTo 1 _ tH rfl rfl rfl rfl rfl rfl rfl rfl rfl rfl (by show 0 + m * 1 + 1 ≤ (nS (s.take m) ++ ([str (numS y), str (numS y)] ++ C)).length; rw [List.length_append, hA]; simp <;> omega) h2 ?_
       refine wl_nil (ne_wt ?_)
       refine wt_doneF rfl (by kernel_rfl) ?_
       exact ne_late () ⟨rfl, rfl, rfl, rfl, rfl, rfl, trivial⟩ [0, 1] (by decide) rfl
     ·refine wl_storeTo 1 _ tH rfl rfl rfl rfl rfl rfl rfl rfl rfl rfl (by show 0 + (m + 1) * 1 + 1 ≤ (nS (s.take m) ++ ([str (numS y), str (numS x)] ++ C)).length; rw [List.length_append, hA]; simp <;> omega) h1 ?_
      refine wl_nil (ne_wt ?_)
      refine wt_stepF rfl rfl (by kernel_rfl) ?_
      refine RS.cons ?_ (RS.nil)
      refine wP rfl (wl_nil (ne_wt ?_))
      refine wt_stepF rfl rfl (by kernel_rfl) ?_
      refine RS.cons ?_ (RS.nil)
      refine wP rfl (wl_nil (ne_wt ?_))
      refine wt_stepF rfl rfl (by kernel_rfl) ?_
      refine RS.cons ?_ (RS.nil)
      refine wl_upd 41 (.int .i64 (m : Nat)) rfl (congrArg (Value.int .i64) (show w64 (((m + 1 : Nat) : Int) - 1) = _ by rw [w64_id (by omega) (by omega)]; omega)) ?_; (first | refine wI rfl rfl (by omega) (by omega) ?_ | refine qI rfl rfl (by omega) (by omega) ?_)
      refine wl_nil (ne_wt ?_)
      refine wt_stepF rfl rfl (by kernel_rfl) ?_
      refine RS.cons ?_ (RS.nil)
      refine wl_storeTo 1 _ tH rfl rfl rfl rfl rfl rfl rfl rfl rfl rfl (by show 0 + m * 1 + 1 ≤ (nS (s.take m) ++ ([str (numS y), str (numS y)] ++ C)).length; rw [List.length_append, hA]; simp <;> omega) h2 ?_
      refine wl_nil (ne_wt ?_)
      refine wt_doneF rfl (by kernel_rfl) ?_
      exact ne_late () ⟨rfl, rfl, rfl, rfl, rfl, rfl, trivial⟩ [0, 1] (by decide) rfl
    ·refine wP rfl (wl_nil (ne_wt ?_))
     refine wt_step rfl rfl (by ((repeat (first | refine Weak.same ?_ | refine Weak.off rfl ?_)); exact trivial)) ?_
     refine RS.cons ?_ (RS.cons ?_ (RS.cons ?_ (RS.nil)))
     ·refine wP rfl (wl_nil (ne_wt ?_))
      refine wt_step rfl rfl (by ((repeat (first | refine Weak.same ?_ | refine Weak.off rfl ?_)); exact trivial)) ?_
      refine RS.cons ?_ (RS.cons ?_ (RS.nil))
      ·refine wP rfl (wl_nil (ne_wt ?_))
       refine wt_step rfl rfl (by ((repeat (first | refine Weak.same ?_ | refine Weak.off rfl ?_)); exact trivial)) ?_
       refine RS.cons ?_ (RS.nil)
       refine wl_storeTo 1 _ tH rfl rfl rfl rfl rfl rfl rfl rfl rfl rfl (by show 0 + (m + 1) * 1 + 1 ≤ (nS (s.take m) ++ ([str (numS y), str (numS x)] ++ C)).length; rw [List.length_append, hA]; simp <;> omega) h1 ?_
       refine wl_nil (ne_wt ?_)
       refine wt_stepF rfl rfl (by kernel_rfl) ?_
       refine RS.cons ?_ (RS.nil)
       refine wl_upd 41 (.int .i64 (m : Nat)) rfl (congrArg (Value.int .i64) (show w64 (((m + 1 : Nat) : Int) - 1) = _ by rw [w64_id (by omega) (by omega)]; omega)) ?_; (first | refine wI rfl rfl (by omega) (by omega) ?_ | refine qI rfl rfl (by omega) (by omega) ?_)
       refine wl_nil (ne_wt ?_)
       refine wt_stepF rfl rfl (by kernel_rfl) ?_
       refine RS.cons ?_ (RS.nil)
       refine wl_storeTo 1 _ tH rfl rfl rfl rfl rfl rfl rfl rfl rfl rfl (by show 0 + m * 1 + 1 ≤ (nS (s.take m) ++ ([str (numS y), str (numS y)] ++ C)).length; rw [List.length_append, hA]; simp <;> omega) h2 ?_
       refine wl_nil (ne_wt ?_)
       refine wt_doneF rfl (by kernel_rfl) ?_
       exact ne_late () ⟨rfl, rfl, rfl, rfl, rfl, rfl, trivial⟩ [0, 1] (by decide) rfl
      ·refine wl_storeTo 1 _ tH rfl rfl rfl rfl rfl rfl rfl rfl rfl rfl (by show 0 + (m + 1) * 1 + 1 ≤ (nS (s.take m) ++ ([str (numS y), str (numS x)] ++ C)).length; rw [List.length_append, hA]; simp <;> omega) h1 ?_
       refine wl_nil (ne_wt ?_)
       refine wt_stepF rfl rfl (by kernel_rfl) ?_
       refine RS.cons ?_ (RS.nil)
       refine wP rfl (wl_nil (ne_wt ?_))
       refine wt_stepF rfl rfl (by kernel_rfl) ?_
       refine RS.cons ?_ (RS.nil)
       refine wl_upd 41 (.int .i64 (m : Nat)) rfl (congrArg (Value.int .i64) (show w64 (((m + 1 : Nat) : Int) - 1) = _ by rw [w64_id (by omega) (by omega)]; omega)) ?_; (first | refine wI rfl rfl (by omega) (by omega) ?_ | refine qI rfl rfl (by omega) (by omega) ?_)
       refine wl_nil (ne_wt ?_)
       refine wt_stepF rfl rfl (by kernel_rfl) ?_
       refine RS.cons ?_ (RS.nil)
       refine wl_storeTo 1 _ tH rfl rfl rfl rfl rfl rfl rfl rfl rfl rfl (by show 0 + m * 1 + 1 ≤ (nS (s.take m) ++ ([str (numS y), str (numS y)] ++ C)).length; rw [List.length_append, hA]; simp <;> omega) h2 ?_
       refine wl_nil (ne_wt ?_)
       refine wt_doneF rfl (by kernel_rfl) ?_
       exact ne_late () ⟨rfl, rfl, rfl, rfl, rfl, rfl, trivial⟩ [0, 1] (by decide) rfl
     ·refine wP rfl (wl_nil (ne_wt ?_))
      refine wt_step rfl rfl (by ((repeat (first | refine Weak.same ?_ | refine Weak.off rfl ?_)); exact trivial)) ?_
      refine RS.cons ?_ (RS.cons ?_ (RS.nil))
      ·refine wP rfl (wl_nil (ne_wt ?_))
       refine wt_step rfl rfl (by ((repeat (first | refine Weak.same ?_ | refine Weak.off rfl ?_)); exact trivial)) ?_
       refine RS.cons ?_ (RS.nil)
       refine wl_storeTo 1 _ tH rfl rfl rfl rfl rfl rfl rfl rfl rfl rfl (by show 0 + (m + 1) * 1 + 1 ≤ (nS (s.take m) ++ ([str (numS y), str (numS x)] ++ C)).length; rw [List.length_append, hA]; simp <;> omega) h1 ?_
       refine wl_nil (ne_wt ?_)
       refine wt_stepF rfl rfl (by kernel_rfl) ?_
       refine RS.cons ?_ (RS.nil)
       refine wl_upd 41 (.int .i64 (m : Nat)) rfl (congrArg (Value.int .i64) (show w64 (((m + 1 : Nat) : Int) - 1) = _ by rw [w64_id (by omega) (by omega)]; omega)) ?_; (first | refine wI rfl rfl (by omega) (by omega) ?_ | refine qI rfl rfl (by omega) (by omega) ?_)
       refine wl_nil (ne_wt ?_)
       refine wt_stepF rfl rfl (by kernel_rfl) ?_
       refine RS.cons ?_ (RS.nil)
       refine wl_storeTo 1 _ tH rfl rfl rfl rfl rfl rfl rfl rfl rfl rfl (by show 0 + m * 1 + 1 ≤ (nS (s.take m) ++ ([str (numS y), str (numS y)] ++ C)).length; rw [List.length_append, hA]; simp <;> omega) h2 ?_
       refine wl_nil (ne_wt ?_)
       refine wt_doneF rfl (by kernel_rfl) ?_
       exact ne_late () ⟨rfl, rfl, rfl, rfl, rfl, rfl, trivial⟩ [0, 1] (by decide) rfl
      ·refine wl_storeTo 1 _ tH rfl rfl rfl rfl rfl rfl rfl rfl rfl rfl (by show 0 + (m + 1) * 1 + 1 ≤ (nS (s.take m) ++ ([str (numS y), str (numS x)] ++ C)).length; rw [List.length_append, hA]; simp <;> omega) h1 ?_
       refine wl_nil (ne_wt ?_)
       refine wt_stepF rfl rfl (by kernel_rfl) ?_
       refine RS.cons ?_ (RS.nil)
       refine wP rfl (wl_nil (ne_wt ?_))
       refine wt_stepF rfl rfl (by kernel_rfl) ?_
       refine RS.cons ?_ (RS.nil)
       refine wl_upd 41 (.int .i64 (m : Nat)) rfl (congrArg (Value.int .i64) (show w64 (((m + 1 : Nat) : Int) - 1) = _ by rw [w64_id (by omega) (by omega)]; omega)) ?_; (first | refine wI rfl rfl (by omega) (by omega) ?_ | refine qI rfl rfl (by omega) (by omega) ?_)
       refine wl_nil (ne_wt ?_)
       refine wt_stepF rfl rfl (by kernel_rfl) ?_
       refine RS.cons ?_ (RS.nil)
       refine wl_storeTo 1 _ tH rfl rfl rfl rfl rfl rfl rfl rfl rfl rfl (by show 0 + m * 1 + 1 ≤ (nS (s.take m) ++ ([str (numS y), str (numS y)] ++ C)).length; rw [List.length_append, hA]; simp <;> omega) h2 ?_
       refine wl_nil (ne_wt ?_)
       refine wt_doneF rfl (by kernel_rfl) ?_
       exact ne_late () ⟨rfl, rfl, rfl, rfl, rfl, rfl, trivial⟩ [0, 1] (by decide) rfl
     ·refine wl_storeTo 1 _ tH rfl rfl rfl rfl rfl rfl rfl rfl rfl rfl (by show 0 + (m + 1) * 1 + 1 ≤ (nS (s.take m) ++ ([str (numS y), str (numS x)] ++ C)).length; rw [List.length_append, hA]; simp <;> omega) h1 ?_
      refine wl_nil (ne_wt ?_)
      refine wt_stepF rfl rfl (by kernel_rfl) ?_
      refine RS.cons ?_ (RS.cons ?_ (RS.nil))
      ·refine wP rfl (wl_nil (ne_wt ?_))
       refine wt_stepF rfl rfl (by kernel_rfl) ?_
       refine RS.cons ?_ (RS.nil)
       refine wP rfl (wl_nil (ne_wt ?_))
       refine wt_stepF rfl rfl (by kernel_rfl) ?_
       refine RS.cons ?_ (RS.nil)
       refine wl_upd 41 (.int .i64 (m : Nat)) rfl (congrArg (Value.int .i64) (show w64 (((m + 1 : Nat) : Int) - 1) = _ by rw [w64_id (by omega) (by omega)]; omega)) ?_; (first | refine wI rfl rfl (by omega) (by omega) ?_ | refine qI rfl rfl (by omega) (by omega) ?_)
       refine wl_nil (ne_wt ?_)
       refine wt_stepF rfl rfl (by kernel_rfl) ?_
       refine RS.cons ?_ (RS.nil)
       refine wl_storeTo 1 _ tH rfl rfl rfl rfl rfl rfl rfl rfl rfl rfl (by show 0 + m * 1 + 1 ≤ (nS (s.take m) ++ ([str (numS y), str (numS y)] ++ C)).length; rw [List.length_append, hA]; simp <;> omega) h2 ?_
       refine wl_nil (ne_wt ?_)
       refine wt_doneF rfl (by kernel_rfl) ?_
       exact ne_late () ⟨rfl, rfl, rfl, rfl, rfl, rfl, trivial⟩ [0, 1] (by decide) rfl
      ·refine wP rfl (wl_nil (ne_wt ?_))
       refine wt_stepF rfl rfl (by kernel_rfl) ?_
       refine RS.cons ?_ (RS.nil)
       refine wP rfl (wl_nil (ne_wt ?_))
       refine wt_stepF rfl rfl (by kernel_rfl) ?_
       refine RS.cons ?_ (RS.nil)
       refine wl_upd 41 (.int .i64 (m : Nat)) rfl (congrArg (Value.int .i64) (show w64 (((m + 1 : Nat) : Int) - 1) = _ by rw [w64_id (by omega) (by omega)]; omega)) ?_; (first | refine wI rfl rfl (by omega) (by omega) ?_ | refine qI rfl rfl (by omega) (by omega) ?_)
       refine wl_nil (ne_wt ?_)
       refine wt_stepF rfl rfl (by kernel_rfl) ?_
       refine RS.cons ?_ (RS.nil)
       refine wl_storeTo 1 _ tH rfl rfl rfl rfl rfl rfl rfl rfl rfl rfl (by show 0 + m * 1 + 1 ≤ (nS (s.take m) ++ ([str (numS y), str (numS y)] ++ C)).length; rw [List.length_append, hA]; simp <;> omega) h2 ?_
       refine wl_nil (ne_wt ?_)
       refine wt_doneF rfl (by kernel_rfl) ?_
       exact ne_late () ⟨rfl, rfl, rfl, rfl, rfl, rfl, trivial⟩ [0, 1] (by decide) rfl
    ·refine wl_storeTo 1 _ tH rfl rfl rfl rfl rfl rfl rfl rfl rfl rfl (by show 0 + (m + 1) * 1 + 1 ≤ (nS (s.take m) ++ ([str (numS y), str (numS x)] ++ C)).length; rw [List.length_append, hA]; simp <;> omega) h1 ?_
     refine wl_nil (ne_wt ?_)
     refine wt_stepF rfl rfl (by kernel_rfl) ?_
     refine RS.cons ?_ (RS.cons ?_ (RS.nil))
     ·refine wP rfl (wl_nil (ne_wt ?_))
      refine wt_stepF rfl rfl (by kernel_rfl) ?_
      refine RS.cons ?_ (RS.nil)
      refine wP rfl (wl_nil (ne_wt ?_))
      refine wt_stepF rfl rfl (by kernel_rfl) ?_
      refine RS.cons ?_ (RS.nil)
      refine wP rfl (wl_nil (ne_wt ?_))
      refine wt_stepF rfl rfl (by kernel_rfl) ?_
      refine RS.cons ?_ (RS.nil)
      refine wl_upd 41 (.int .i64 (m : Nat)) rfl (congrArg (Value.int .i64) (show w64 (((m + 1 : Nat) : Int) - 1) = _ by rw [w64_id (by omega) (by omega)]; omega)) ?_; (first | refine wI rfl rfl (by omega) (by omega) ?_ | refine qI rfl rfl (by omega) (by omega) ?_)
      refine wl_nil (ne_wt ?_)
      refine wt_stepF rfl rfl (by kernel_rfl) ?_
      refine RS.cons ?_ (RS.nil)
      refine wl_storeTo 1 _ tH rfl rfl rfl rfl rfl rfl rfl rfl rfl rfl (by show 0 + m * 1 + 1 ≤ (nS (s.take m) ++ ([str (numS y), str (numS y)] ++ C)).length; rw [List.length_append, hA]; simp <;> omega) h2 ?_
      refine wl_nil (ne_wt ?_)
      refine wt_doneF rfl (by kernel_rfl) ?_
      exact ne_late () ⟨rfl, rfl, rfl, rfl, rfl, rfl, trivial⟩ [0, 1] (by decide) rfl
     ·refine wP rfl (wl_nil (ne_wt ?_))
      refine wt_stepF rfl rfl (by kernel_rfl) ?_
      refine RS.cons ?_ (RS.cons ?_ (RS.nil))
      ·refine wP rfl (wl_nil (ne_wt ?_))
       refine wt_stepF rfl rfl (by kernel_rfl) ?_
       refine RS.cons ?_ (RS.nil)
       refine wP rfl (wl_nil (ne_wt ?_))
       refine wt_stepF rfl rfl (by kernel_rfl) ?_
       refine RS.cons ?_ (RS.nil)
       refine wl_upd 41 (.int .i64 (m : Nat)) rfl (congrArg (Value.int .i64) (show w64 (((m + 1 : Nat) : Int) - 1) = _ by rw [w64_id (by omega) (by omega)]; omega)) ?_; (first | refine wI rfl rfl (by omega) (by omega) ?_ | refine qI rfl rfl (by omega) (by omega) ?_)
       refine wl_nil (ne_wt ?_)
       refine wt_stepF rfl rfl (by kernel_rfl) ?_
       refine RS.cons ?_ (RS.nil)
       refine wl_storeTo 1 _ tH rfl rfl rfl rfl rfl rfl rfl rfl rfl rfl (by show 0 + m * 1 + 1 ≤ (nS (s.take m) ++ ([str (numS y), str (numS y)] ++ C)).length; rw [List.length_append, hA]; simp <;> omega) h2 ?_
       refine wl_nil (ne_wt ?_)
       refine wt_doneF rfl (by kernel_rfl) ?_
       exact ne_late () ⟨rfl, rfl, rfl, rfl, rfl, rfl, trivial⟩ [0, 1] (by decide) rfl
      ·refine wP rfl (wl_nil (ne_wt ?_))
       refine wt_stepF rfl rfl (by kernel_rfl) ?_
       refine RS.cons ?_ (RS.nil)
       refine wP rfl (wl_nil (ne_wt ?_))
       refine wt_stepF rfl rfl (by kernel_rfl) ?_
       refine RS.cons ?_ (RS.nil)
       refine wl_upd 41 (.int .i64 (m : Nat)) rfl (congrArg (Value.int .i64) (show w64 (((m + 1 : Nat) : Int) - 1) = _ by rw [w64_id (by omega) (by omega)]; omega)) ?_; (first | refine wI rfl rfl (by omega) (by omega) ?_ | refine qI rfl rfl (by omega) (by omega) ?_)
       refine wl_nil (ne_wt ?_)
       refine wt_stepF rfl rfl (by kernel_rfl) ?_
       refine RS.cons ?_ (RS.nil)
       refine wl_storeTo 1 _ tH rfl rfl rfl rfl rfl rfl rfl rfl rfl rfl (by show 0 + m * 1 + 1 ≤ (nS (s.take m) ++ ([str (numS y), str (numS y)] ++ C)).length; rw [List.length_append, hA]; simp <;> omega) h2 ?_
       refine wl_nil (ne_wt ?_)
       refine wt_doneF rfl (by kernel_rfl) ?_
       exact ne_late () ⟨rfl, rfl, rfl, rfl, rfl, rfl, trivial⟩ [0, 1] (by decide) rfl
   intro _
   refine zN (zE (zB (wP rfl (wP rfl ?_))))
   refine wl_upd 36 (.int .i64 (m : Nat)) rfl (congrArg (Value.int .i64) (show w64 (((m + 1 : Nat) : Int) - 1) = _ by rw [w64_id (by omega) (by omega)]; omega)) ?_
   refine wP rfl (wl_nil ?_)
   refine ne_loop m ⟨by show m ≤ s.length; omega, fun z hz => ?_⟩ (by show m < m + 1; omega) ⟨rfl, rfl, rfl, rfl, rfl, rfl, trivial⟩ [] (by rw [← row2]; rfl)
   rw [e2] at hz
   rcases List.mem_cons.1 hz with rfl | hz
   ·exact hc
   ·exact hgt z hz
 refine key.mono ?_
 rintro e W' ⟨x, he, _, hb, hn'⟩
 exact ⟨x, he, trivial, near_of hg rfl hb hn'⟩
set_option maxHeartbeats 4000000 in
theorem pdqN_gives (cf : Nat) (hcf : CmpOK cf) (W : World) (g cap : Nat) (l : List Rat) (junk : List Value) (z : Int) (hn : l.length ≤ 12) (hg : W.heap[g]? = some (.cells (nS l ++ junk).toArray 37 (0, 0)))
  (hf : ∀ W', Keep W W' g → MaxP W' ∧ TabP W') (hz : ∀ p ∈ l, ∀ q ∈ l, Sz2 p q) :
  Calls Tryz.prog 197 #[.slice (some ⟨g, 0, none⟩) l.length cap, .int .i64 0, .int .i64 (l.length : Nat), .int .i64 z, .func (.func cf) #[] #[]] W fun e W' => ∃ x : Unit, e = .returned ((fun _ => .tuple #[]) x) ∧ True ∧ Near W W' g ((fun _ => g) x) ((fun _ => .cells (nS (sortQ l) ++ junk).toArray 37 (0, 0)) x) := by
 have key : Calls Tryz.prog 197 [.slice (some ⟨g, 0, none⟩) l.length cap, .int .i64 0, .int .i64 (l.length : Nat), .int .i64 z, .func (.func cf) #[] #[]].toArray W fun e W' => ∃ x : Unit, e = .returned ((fun _ => .tuple #[]) x) ∧ (fun _ => True) x ∧ Below (noHeap W).heap.size (noHeap W) W' ∧ NewBx (noHeap W) W' ((fun _ => [grpB (othersL W g), rowQ g (sortQ l) junk]) x) := by
  refine calls_enterT (X := Unit) (val := fun _ => .tuple #[]) (Φ := fun _ => True) (nb := fun _ => [grpB (othersL W g), rowQ g (sortQ l) junk]) (Hp.enterT (B := rowQ g l junk) rfl hg) Tryz.func197 rfl rfl rfl ?_
  refine zA (zB (wP rfl (wl_nil (zE (zA (zB (wP rfl (wl_nil (zE (zH ?_))))))))))
  refine wc_loop (X := Unit) (fun _ => [(0, .slice (some ⟨g, 0, none⟩) l.length cap), (1, .int .i64 0), (2, .int .i64 (l.length : Nat)), (3, .int .i64 z), (4, .func (.func cf) #[] #[])]) (fun _ => [grpB (othersL W g), rowQ g l junk]) (fun _ => True) (fun _ => 0) () trivial ⟨rfl, rfl, rfl, rfl, rfl, trivial⟩ [] rfl ?_
  intro _ _
  refine zH (zA (zB (wP rfl (wP rfl (wP rfl ?_)))))
  refine wl_upd 23 (.int .i64 (l.length : Nat)) rfl (congrArg (Value.int .i64) (show w64 ((l.length : Nat) - 0) = _ by rw [w64_id (by omega) (by omega)]; omega)) ?_
  refine wP rfl (wl_nil (zE (zA (zA (zB (wP rfl (wP rfl ?_)))))))
  refine wl_upd 25 (.bool true) rfl (congrArg Value.bool (decide_eq_true (by omega))) ?_
  refine wl_nil (zE (zR rfl (zA (zB (wP rfl (wP rfl (wP rfl (wP rfl ?_))))))))
  refine wl_callN (X := Unit) (val := fun _ => .tuple #[]) (Φ := fun _ => True) (capt := []) 1 (B := rowQ g l junk) (L1 := []) (L2 := []) (b := g) (ob := .cells (nS l ++ junk).toArray 37 (0, 0)) (fun _ => rowQ g (sortQ l) junk) (g' := fun _ => g) (o' := fun _ => .cells (nS (sortQ l) ++ junk).toArray 37 (0, 0))
   rfl rfl rfl rfl rfl rfl (by kernel_rfl) rfl rfl (fun _ _ => rfl) (fun W1 hp => insN_gives cf hcf W1 g cap l junk (by omega) (hp.own.cell 1 _ rfl (g, .cells (nS l ++ junk).toArray 37 (0, 0)) (List.mem_cons_self ..)).1 (fun W2 hk => hf W2 ((keep_of hg ⟨_, List.mem_cons_self ..⟩ hp).trans hk)) hz) (fun _ _ => ?_)
  refine wl_nil (zE (zO (zP (zQ (zP (zQ ?_))))))
  refine ne_ret0 (X := Unit) (val := fun _ => .tuple #[]) (Φ := fun _ => True) (nb := fun _ => [grpB (othersL W g), rowQ g (sortQ l) junk]) (fn := Tryz.f197) tH rfl () rfl trivial fun W1 hp => ?_
  exact (hp.pick (l := [grpB (othersL W g), rowQ g (sortQ l) junk]) [0, 1] (by decide) rfl).own
 refine key.mono ?_
 rintro e W' ⟨x, he, _, hb, hn'⟩
 exact ⟨x, he, trivial, near_of hg rfl hb hn'⟩
theorem ins0_gives (cf : Nat) (W : World) (p : Option Addr) (cap : Nat) : CallsR Tryz.prog 254 #[.slice p 0 cap, .int .i64 0, .int .i64 ((0 : Nat) : Int), .func (.func cf) #[] #[]] W (fun _ : Unit => .tuple #[]) (fun _ => True) (fun _ => []) := by
 refine calls_enter (args := [.slice p 0 cap, .int .i64 0, .int .i64 ((0 : Nat) : Int), .func (.func cf) #[] #[]]) Tryz.func254 rfl rfl rfl ?_
 refine zA (zB (wP rfl (wP rfl (wP rfl (wl_nil (zE (zH ?_)))))))
 refine wc_loop (X := Unit) (fun _ => [(0, .slice p 0 cap), (1, .int .i64 0), (2, .int .i64 ((0 : Nat) : Int)), (3, .func (.func cf) #[] #[]), (8, .int .i64 1)]) (fun _ => []) (fun _ => True) (fun _ => 0) () trivial ⟨rfl, rfl, rfl, rfl, rfl, trivial⟩ [] rfl ?_
 intro _ _
 refine zA (zA (zB (wP rfl (wP rfl (wP rfl ?_)))))
 refine wl_upd 14 (.bool false) rfl rfl ?_
 refine wl_nil (zE (zS rfl (zJ (zK (zK (zL ?_))))))
 exact ne_end0 (X := Unit) (val := fun _ => .tuple #[]) (Φ := fun _ => True) (nb := fun _ => []) (fn := Tryz.f254) tH rfl () rfl trivial fun W _ => NewBx.nil _ _
theorem pdq0_gives (cf : Nat) (W : World) (p : Option Addr) (cap : Nat) (z : Int) : CallsR Tryz.prog 197 #[.slice p 0 cap, .int .i64 0, .int .i64 ((0 : Nat) : Int), .int .i64 z, .func (.func cf) #[] #[]] W (fun _ : Unit => .tuple #[]) (fun _ => True) (fun _ => []) := by
 refine calls_enter (args := [.slice p 0 cap, .int .i64 0, .int .i64 ((0 : Nat) : Int), .int .i64 z, .func (.func cf) #[] #[]]) Tryz.func197 rfl rfl rfl ?_
 refine zA (zB (wP rfl (wl_nil (zE (zA (zB (wP rfl (wl_nil (zE (zH ?_))))))))))
 refine wc_loop (X := Unit) (fun _ => [(0, .slice p 0 cap), (1, .int .i64 0), (2, .int .i64 ((0 : Nat) : Int)), (3, .int .i64 z), (4, .func (.func cf) #[] #[])]) (fun _ => []) (fun _ => True) (fun _ => 0) () trivial ⟨rfl, rfl, rfl, rfl, rfl, trivial⟩ [] rfl ?_
 intro _ _
 refine zH (zA (zB (wP rfl (wP rfl (wP rfl ?_)))))
 refine wl_upd 23 (.int .i64 ((0 : Nat) : Int)) rfl rfl ?_
 refine wP rfl (wl_nil (zE (zA (zA (zB (wP rfl (wP rfl ?_)))))))
 refine wl_upd 25 (.bool true) rfl rfl ?_
 refine wl_nil (zE (zR rfl (zA (zB (wP rfl (wP rfl (wP rfl (wP rfl ?_))))))))
 refine wl_call1 (capt := []) rfl rfl rfl rfl rfl rfl (by kernel_rfl) (fun W _ => ins0_gives cf W p cap) ?_
 refine wl_nil (zE (zO (zP (zQ (zP (zQ ?_))))))
 exact ne_ret0 (X := Unit) (val := fun _ => .tuple #[]) (Φ := fun _ => True) (nb := fun _ => []) (fn := Tryz.f197) tH rfl () rfl trivial fun W _ => NewBx.nil _ _
theorem bitLen_gives (x : Nat) (h : x ≤ 18446744073709551615) (W : World) : CallsR Tryz.prog 161 #[.int .u64 (x : Nat)] W (fun _ : Unit => .int .i64 (Lib.bitLen x)) (fun _ => True) (fun _ => []) := by
 refine CallsR.of1 ((Go.Proofs.Any.bits_Len (P := Tryz.prog) (ρ := Tryz.lays125_ren) Tryz.lays125 (x : Int) W (by omega) (by omega)).mono ?_)
 rintro e w' ⟨rfl, rfl⟩
 exact ⟨rfl, Below.refl _ _⟩
theorem u64_nat {n : Nat} (h : n ≤ 12) : IntKind.u64.wrap (n : Nat) = (n : Int) := by
 simp only [IntKind.wrap, IntKind.signed, IntKind.bits]
 simp
 omega
set_option maxHeartbeats 4000000 in
theorem sortFn_gives (cf : Nat) (hcf : CmpOK cf) (W : World) (g cap : Nat) (l : List Rat) (junk : List Value) (hn : l.length ≤ 12) (hg : W.heap[g]? = some (.cells (nS l ++ junk).toArray 37 (0, 0)))
  (hf : ∀ W', Keep W W' g → MaxP W' ∧ TabP W') (hz : ∀ p ∈ l, ∀ q ∈ l, Sz2 p q) :
  Calls Tryz.prog 127 #[.slice (some ⟨g, 0, none⟩) l.length cap, .func (.func cf) #[] #[]] W fun e W' => ∃ x : Unit, e = .returned ((fun _ => .tuple #[]) x) ∧ True ∧ Near W W' g ((fun _ => g) x) ((fun _ => .cells (nS (sortQ l) ++ junk).toArray 37 (0, 0)) x) := by
 have key : Calls Tryz.prog 127 [.slice (some ⟨g, 0, none⟩) l.length cap, .func (.func cf) #[] #[]].toArray W fun e W' => ∃ x : Unit, e = .returned ((fun _ => .tuple #[]) x) ∧ (fun _ => True) x ∧ Below (noHeap W).heap.size (noHeap W) W' ∧ NewBx (noHeap W) W' ((fun _ => [grpB (othersL W g), rowQ g (sortQ l) junk]) x) := by
  refine calls_enterT (X := Unit) (val := fun _ => .tuple #[]) (Φ := fun _ => True) (nb := fun _ => [grpB (othersL W g), rowQ g (sortQ l) junk]) (Hp.enterT (B := rowQ g l junk) rfl hg) Tryz.func127 rfl rfl rfl ?_
  refine zA (zB (wP rfl (wP rfl (wP rfl (wl_nil (zE (zB (wP rfl (wP rfl (wP rfl ?_))))))))))
  refine wl_cvA (k := .u64) (kt := .i64) (by kernel_rfl) (by kernel_rfl) rfl rfl rfl rfl ?_
  refine wl_upd 10 (.int .u64 (l.length : Nat)) rfl (congrArg (Value.int .u64) (u64_nat hn)) ?_
  refine wl_call1 (capt := []) rfl rfl rfl rfl rfl rfl (by kernel_rfl) (fun W _ => bitLen_gives l.length (by omega) W) ?_
  refine wP rfl ?_
  refine wl_callN (X := Unit) (val := fun _ => .tuple #[]) (Φ := fun _ => True) (capt := []) 1 (B := rowQ g l junk) (L1 := []) (L2 := []) (b := g) (ob := .cells (nS l ++ junk).toArray 37 (0, 0)) (fun _ => rowQ g (sortQ l) junk) (g' := fun _ => g) (o' := fun _ => .cells (nS (sortQ l) ++ junk).toArray 37 (0, 0))
   rfl rfl rfl rfl rfl rfl (by kernel_rfl) rfl rfl (fun _ _ => rfl) (fun W1 hp => pdqN_gives cf hcf W1 g cap l junk _ hn (hp.own.cell 1 _ rfl (g, .cells (nS l ++ junk).toArray 37 (0, 0)) (List.mem_cons_self ..)).1 (fun W2 hk => hf W2 ((keep_of hg ⟨_, List.mem_cons_self ..⟩ hp).trans hk)) hz) (fun _ _ => ?_)
  refine wl_nil ?_
  refine ne_end0 (X := Unit) (val := fun _ => .tuple #[]) (Φ := fun _ => True) (nb := fun _ => [grpB (othersL W g), rowQ g (sortQ l) junk]) (fn := Tryz.f127) tH rfl () rfl trivial fun W1 hp => ?_
  exact (hp.pick (l := [grpB (othersL W g), rowQ g (sortQ l) junk]) [0, 1] (by decide) rfl).own
 refine key.mono ?_
 rintro e W' ⟨x, he, _, hb, hn'⟩
 exact ⟨x, he, trivial, near_of hg rfl hb hn'⟩
-- BOXES 3
abbrev cs (l : List (List UInt8)) : List Value := l.map Go.Proofs.encStr
theorem cs_get {l : List (List UInt8)} {j : Nat} (h : j < l.length) (junk : List Value) : (cs l ++ junk)[j]? = some (Go.Proofs.encStr l.toArray[j]!) := by
 rw [List.getElem?_append_left (by simpa using h), List.getElem?_map, List.getElem?_eq_getElem h, getElem!_pos l.toArray j (by simpa using h)]; simp
theorem cs_holds {W : World} {g : Nat} {zs : List (List UInt8)} {junk : List Value} {ty : TypeId} (h : W.heap[g]? = some (.cells (cs zs ++ junk).toArray ty (0, 0))) : Sort.Holds Go.Proofs.encStr W g 0 zs.toArray := fun j hj => by
 have hj' : j < zs.length := by simpa using hj
 have h1 := cs_get hj' junk
 constructor
 ·simp only [World.cell?, h, Nat.zero_add]
  rw [List.getElem?_toArray]; exact h1
 ·simp [World.frozen?, h]
theorem putCells_cs {zs zs' : List (List UInt8)} (hl : zs'.length = zs.length) (junk : List Value) : Sort.putCells Go.Proofs.encStr 0 zs'.toArray (cs zs ++ junk).toArray = (cs zs' ++ junk).toArray := by
 apply Array.ext_getElem?
 intro k
 simp only [Sort.putCells, Array.getElem?_mapIdx, List.getElem?_toArray, List.size_toArray, Nat.zero_add, Nat.sub_zero, Nat.zero_le, true_and]
 by_cases hk : k < zs.length
 ·rw [cs_get hk, cs_get (show k < zs'.length by omega), Option.map_some, if_pos (by omega)]
 ·rw [List.getElem?_append_right (by simp; omega), List.getElem?_append_right (by simp; omega)]
  simp only [List.length_map, hl]
  cases junk[k - zs.length]? with
  | none => rfl
  | some y => rw [Option.map_some, if_neg (by omega)]
theorem putCs_near {W : World} {g : Nat} {zs zs' : List (List UInt8)} {junk : List Value} {ty : TypeId} (h : W.heap[g]? = some (.cells (cs zs ++ junk).toArray ty (0, 0))) (hl : zs'.length = zs.length) (n : Nat) :
  Near W (Sort.putRow Go.Proofs.encStr (Sort.ahead W n) g 0 zs'.toArray) g g (.cells (cs zs' ++ junk).toArray ty (0, 0)) := by
 have hlt : g < W.heap.size := (Array.getElem?_eq_some_iff.1 h).1
 have hs : ∀ x, x < W.heap.size → (Sort.putRow Go.Proofs.encStr (Sort.ahead W n) g 0 zs'.toArray).heap[x]? = (W.heap.modify g (Sort.onCells (Sort.putCells Go.Proofs.encStr 0 zs'.toArray)))[x]? := fun x hx => rfl
 refine ⟨rfl, rfl, rfl, ?_, ?_, .inl rfl, fun x hx hlt' => ?_⟩
 ·show W.heap.size ≤ (W.heap.modify g _).size
  simp
 ·rw [hs g hlt, Array.getElem?_modify, if_pos rfl, h, Option.map_some]
  show some (Obj.cells (Sort.putCells _ _ _ _) _ _) = _
  rw [putCells_cs hl]
 ·rw [hs x hlt', Array.getElem?_modify, if_neg (fun e => hx e.symm)]
theorem compQ_len (l : List Rat) : (compQ l).length ≤ l.length := by
 fun_induction compQ l with
 | case1 => exact Nat.le_refl _
 | case2 x => exact Nat.le_refl _
 | case3 x l ih => simp only [List.length_cons] at ih ⊢; omega
 | case4 x y l h ih => simp only [List.length_cons] at ih ⊢; omega
theorem cs_nS (l : List Rat) : cs (l.map numS) = nS l := by simp [nS, cs]
abbrev compJ (l : List Rat) (junk : List Value) : List Value := cs (List.replicate (l.length - (compQ l).length) []) ++ junk
theorem compN_gives {W : World} {g cap : Nat} {l : List Rat} {junk : List Value} {ty : TypeId} (h : W.heap[g]? = some (.cells (nS l ++ junk).toArray ty (0, 0))) (hn : l.length ≤ 9223372036854775807) (hcap : l.length ≤ cap) :
  Calls Tryz.prog 129 #[.slice (some ⟨g, 0, none⟩) l.length cap] W fun e W' => ∃ x : Unit, e = .returned ((fun _ => .slice (some ⟨g, 0, none⟩) (compQ l).length cap) x) ∧ True ∧
   Near W W' g ((fun _ => g) x) ((fun _ => .cells (nS (compQ l) ++ compJ l junk).toArray ty (0, 0)) x) := by
 have hl := compQ_len l
 rw [← cs_nS] at h
 have h1 := Go.Proofs.AnyG.slices_Compact_string (P := Tryz.prog) (ρ := Tryz.laysN44_ren) Tryz.laysN44 g 0 cap (l.map numS) W (cs_holds h) (by rw [List.length_map]; exact hn) (by rw [List.length_map]; exact hcap)
 rw [compact_comp, List.length_map, List.length_map] at h1
 refine h1.mono ?_
 rintro e W' ⟨rfl, n, rfl⟩
 refine ⟨(), rfl, trivial, ?_⟩
 have h2 := putCs_near (zs' := (compQ l).map numS ++ List.replicate (l.length - (compQ l).length) []) h (by rw [List.length_append, List.length_replicate, List.length_map, List.length_map]; omega) n
 have e : cs ((compQ l).map numS ++ List.replicate (l.length - (compQ l).length) []) ++ junk = nS (compQ l) ++ compJ l junk := by
  rw [← cs_nS, ← List.append_assoc]; congr 1; exact List.map_append
 rw [e] at h2
 exact h2
theorem sort0_gives (cf : Nat) (W : World) (p : Option Addr) (cap : Nat) : CallsR Tryz.prog 127 #[.slice p 0 cap, .func (.func cf) #[] #[]] W (fun _ : Unit => .tuple #[]) (fun _ => True) (fun _ => []) := by
 refine calls_enter (args := [.slice p 0 cap, .func (.func cf) #[] #[]]) Tryz.func127 rfl rfl rfl ?_
 refine zA (zB (wP rfl (wP rfl (wP rfl (wl_nil (zE (zB (wP rfl (wP rfl (wP rfl ?_))))))))))
 refine wl_cvA (k := .u64) (kt := .i64) (by kernel_rfl) (by kernel_rfl) rfl rfl rfl rfl ?_
 refine wl_upd 10 (.int .u64 ((0 : Nat) : Int)) rfl rfl ?_
 refine wl_call1 (capt := []) rfl rfl rfl rfl rfl rfl (by kernel_rfl) (fun W _ => bitLen_gives 0 (by omega) W) ?_
 refine wP rfl ?_
 refine wl_call1 (capt := []) rfl rfl rfl rfl rfl rfl (by kernel_rfl) (fun W _ => pdq0_gives cf W p cap _) ?_
 refine wl_nil ?_
 exact ne_end0 (X := Unit) (val := fun _ => .tuple #[]) (Φ := fun _ => True) (nb := fun _ => []) (fn := Tryz.f127) tH rfl () rfl trivial fun W _ => NewBx.nil _ _
theorem comp0_gives (W : World) (p : Option Addr) (cap : Nat) : CallsR Tryz.prog 129 #[.slice p 0 cap] W (fun _ : Unit => .slice p 0 cap) (fun _ => True) (fun _ => []) := by
 refine calls_enter (args := [.slice p 0 cap]) Tryz.func129 rfl rfl rfl ?_
 refine zA (zB (wP rfl (wl_nil (zE (zA (zA (zB (wP rfl (wP rfl (wP rfl (wl_nil (zE (zR rfl ?_)))))))))))))
 refine zA (zB (wP rfl (wP rfl (wl_nil (zE (zO (zP ?_)))))))
 exact ne_ret1 tH rfl (.tmp rfl) () rfl trivial fun W _ => NewBx.nil _ _
theorem set_same_get {α : Type} {l : List α} {k : Nat} {x : α} (h : l[k]? = some x) : l.set k x = l := by
 obtain ⟨h1, rfl⟩ := List.getElem?_eq_some_iff.1 h
 exact List.set_getElem_self h1
section
variable {r : Option Nat} {n : Nat} {W0 : World} {N : Nat} {D : List Deferred} {ops : List Oper} {Q : Exit → Act → World → Prop} {o : Oper} {rest : List Oper} {env : Env} {bxs : List Bx}
theorem wl_sortQ (k : Nat) (cf : Nat) (hcf : CmpOK cf) (hv0 : MaxP W0) (ht0 : TabP W0) {c : Call} {f : Operand} {d : Nat} {V : Vec} {l : List Rat} {len : Nat}
  (hg : guardE ops N env o = some true) (hd : o.dst = some d) (ho : o.op = .call c) (hc : c.callee = .value f) (hf : evO N env f = some (.func (.func 127) #[] #[])) (ha : evArgs (evO N env) c.args.toList = some [V.val len, .func (.func cf) #[] #[]])
  (hk : nth bxs k = some (V.bx 37 (nS l))) (hlen : len = l.length) (hV : V.OK 1 len (nS l)) (hn : l.length ≤ 12) (hz : ∀ p ∈ l, ∀ q ∈ l, Sz2 p q)
  (h : WL r n Tryz.prog N D ops Q rest ((d, .tuple #[]) :: env) (Hp W0 (bxs.set k (V.bx 37 (nS (sortQ l)))))) : WL r n Tryz.prog N D ops Q (o :: rest) env (Hp W0 bxs) := by
 subst hlen
 obtain ⟨p, cap, junk⟩ := V
 cases p with
 | none =>
  have hz0 := hV.nil rfl
  have e : bxs.set k ((⟨none, cap, junk⟩ : Vec).bx 37 (nS (sortQ l))) = bxs := by
   have h1 : bxs[k]? = some ((⟨none, cap, junk⟩ : Vec).bx 37 (nS l)) := by rw [← nth_eq]; exact hk
   exact set_same_get h1
  rw [e] at h
  refine wl_call1 (capt := []) hg hd ho hc hf ha (by kernel_rfl) (fun W _ => ?_) h
  exact sort0_gives cf W none 0
 | some g =>
  have hk' : bxs[k]? = some (rowQ g l junk) := by rw [← nth_eq]; exact hk
  refine wl_callN (X := Unit) (val := fun _ => .tuple #[]) (Φ := fun _ => True) (capt := []) k (B := rowQ g l junk) (L1 := []) (L2 := []) (b := g) (ob := .cells (nS l ++ junk).toArray 37 (0, 0)) (fun _ => rowQ g (sortQ l) junk) (g' := fun _ => g) (o' := fun _ => .cells (nS (sortQ l) ++ junk).toArray 37 (0, 0))
   hg hd ho hc hf ha (by kernel_rfl) hk rfl (fun _ _ => rfl) (fun W hp => ?_) (fun _ _ => h)
  have hcell := hp.own.cell k _ hk' (g, .cells (nS l ++ junk).toArray 37 (0, 0)) (List.mem_cons_self ..)
  exact sortFn_gives cf hcf W g cap l junk hn hcell.1 (fun W' hK => ⟨hv0.below (hK.below hp.below hcell.2), ht0.below (hK.below hp.below hcell.2)⟩) hz
theorem wl_compQ (k : Nat) {c : Call} {f : Operand} {d : Nat} {V : Vec} {l : List Rat} {len : Nat}
  (hg : guardE ops N env o = some true) (hd : o.dst = some d) (ho : o.op = .call c) (hc : c.callee = .value f) (hf : evO N env f = some (.func (.func 129) #[] #[])) (ha : evArgs (evO N env) c.args.toList = some [V.val len])
  (hk : nth bxs k = some (V.bx 37 (nS l))) (hlen : len = l.length) (hV : V.OK 1 len (nS l)) (hn : l.length ≤ 9223372036854775807)
  (h : ∀ V' : Vec, V'.OK 1 (compQ l).length (nS (compQ l)) → WL r n Tryz.prog N D ops Q rest ((d, V'.val (compQ l).length) :: env) (Hp W0 (bxs.set k (V'.bx 37 (nS (compQ l)))))) : WL r n Tryz.prog N D ops Q (o :: rest) env (Hp W0 bxs) := by
 subst hlen
 have hl := compQ_len l
 obtain ⟨p, cap, junk⟩ := V
 cases p with
 | none =>
  have hz0 := hV.nil rfl
  have hl0 : l = [] := List.length_eq_zero_iff.1 hz0
  subst hl0
  have h := h ⟨none, cap, junk⟩ ⟨by rw [compQ_nil]; rfl, fun _ => by rw [compQ_nil]; rfl, fun h => absurd rfl h⟩
  have e : bxs.set k ((⟨none, cap, junk⟩ : Vec).bx 37 (nS (compQ []))) = bxs := by
   have h1 : bxs[k]? = some ((⟨none, cap, junk⟩ : Vec).bx 37 (nS [])) := by rw [← nth_eq]; exact hk
   exact set_same_get h1
  rw [e] at h
  refine wl_call1 (capt := []) hg hd ho hc hf ha (by kernel_rfl) (fun W _ => ?_) h
  exact comp0_gives W none 0
 | some g =>
  obtain ⟨c1, c2, c3⟩ := hV.cap (by simp)
  have c1 : l.length ≤ cap := c1
  have c2 : cap ≤ maxLen := c2
  have hk' : bxs[k]? = some (rowQ g l junk) := by rw [← nth_eq]; exact hk
  have h := h ⟨some g, cap, compJ l junk⟩ ⟨by simp [nS], fun h => by simp at h, fun _ => ⟨by show (compQ l).length ≤ cap; omega, c2, by
   show (nS (compQ l)).length + (compJ l junk).length = cap * 1
   simp only [nS, compJ, cs, List.length_append, List.length_map, List.length_replicate] at c3 ⊢
   have c3 : l.length + junk.length = cap * 1 := c3
   omega⟩⟩
  refine wl_callN (X := Unit) (val := fun _ => .slice (some ⟨g, 0, none⟩) (compQ l).length cap) (Φ := fun _ => True) (capt := []) k (B := rowQ g l junk) (L1 := []) (L2 := []) (b := g) (ob := .cells (nS l ++ junk).toArray 37 (0, 0)) (fun _ => ⟨g, 37, nS (compQ l) ++ compJ l junk, true, none⟩) (g' := fun _ => g) (o' := fun _ => .cells (nS (compQ l) ++ compJ l junk).toArray 37 (0, 0))
   hg hd ho hc hf ha (by kernel_rfl) hk rfl (fun _ _ => rfl) (fun W hp => ?_) (fun _ _ => h)
  exact compN_gives (hp.own.cell k _ hk' (g, .cells (nS l ++ junk).toArray 37 (0, 0)) (List.mem_cons_self ..)).1 hn c1
end
-- BOXES 6
theorem fcmpOK : CmpOK 128 := ⟨by kernel_rfl, fun p q W h hv ht => fcompare_gives p q h W hv ht⟩
def fl (f g : FrP) (k : Nat) : List Rat := ((meetL f g).take k).filter (frEq f g)
theorem fl_len (f g : FrP) (k : Nat) : (fl f g k).length ≤ 5 := by
 have h1 := List.length_filter_le (frEq f g) ((meetL f g).take k)
 have h2 := meetL_len f g
 rw [List.length_take] at h1
 unfold fl; omega
theorem fl_succ (f g : FrP) {k : Nat} (hk : k < (meetL f g).length) : fl f g (k + 1) = if frEq f g ((meetL f g).getD k 0) = true then fl f g k ++ [(meetL f g).getD k 0] else fl f g k := by
 have e : (meetL f g).getD k 0 = (meetL f g)[k] := by rw [List.getD_eq_getElem?_getD, List.getElem?_eq_getElem hk]; rfl
 rw [e, fl, List.take_add_one, List.getElem?_eq_getElem hk, List.filter_append]
 show _ ++ List.filter _ [_] = _
 rw [List.filter_cons, List.filter_nil]
 split
 ·rfl
 ·rw [List.append_nil]; rfl
theorem mem_fl {f g : FrP} {k : Nat} {t : Rat} (h : t ∈ fl f g k) : t ∈ meetL f g := List.mem_of_mem_take (List.mem_filter.1 h).1
set_option maxHeartbeats 8000000 in
theorem fEqual_gives (f g : FrP) (hf : f.OK) (hg : g.OK) (hax : f.ax = g.ax) (hz : MeetZ f g) (hs : ∀ p ∈ meetL f g, ∀ q ∈ meetL f g, Sz2 p q)
  (a b k : Nat) (ha : szQ f.sp a) (hb : szQ f.st b) (ha' : szQ g.sp a) (hb' : szQ g.st b) (hk : ∀ t ∈ meetL f g, szQ t k) (hk1 : a + b + k + 9 ≤ 300) (hk2 : k + 36 + 1 ≤ 300) (W : World) (hv : MaxP W) (ht : TabP W) :
  CallsR Tryz.prog 52 #[frV f, frV g] W (fun V : Vec => .tuple #[V.val (eqL f g).length, .int .i64 0]) (fun V => V.OK 1 (eqL f g).length (nS (eqL f g))) (fun V => [V.bx 37 (nS (eqL f g))]) := by
 refine calls_enter (args := [frV f, frV g]) Tryz.func52 rfl rfl rfl ?_
 refine zA (zB ?_)
 (refine wl_box rfl rfl rfl rfl ?_; intro)
 (refine wl_box rfl rfl rfl rfl ?_; intro)
 refine wP rfl (wP rfl (wl_nil ?_))
 rename_i b2 b3
 refine zE (zA (zA (zB (wB 0 rfl rfl rfl ?_))))
 refine wl_call1 rfl rfl rfl rfl rfl rfl (by kernel_rfl) (fun W hp => fcheck_gives f hf W (hv.hp hp) (ht.hp hp)) ?_
 refine wP rfl (wP rfl (wB 1 rfl rfl rfl ?_))
 refine wl_call1 rfl rfl rfl rfl rfl rfl (by kernel_rfl) (fun W hp => fcheck_gives g hg W (hv.hp hp) (ht.hp hp)) ?_
 refine wP rfl (wP rfl (wl_nil (zE (zS rfl (zI (zE (zA (zA (zB (wP rfl (wB 0 rfl rfl rfl (wP rfl (wB 1 rfl rfl rfl ?_)))))))))))))
 refine wl_eqB Tryz.underlying4 rfl rfl rfl rfl rfl rfl ?_
 refine wl_upd 24 (.bool false) rfl (congrArg Value.bool (by rw [hax]; simp)) ?_
 refine wl_nil (zE (zS rfl (zI (zE (zA (zB ?_))))))
 (refine wl_allocZ Tryz.hZ rfl rfl rfl rfl ?_; intro)
 refine wl_nil ?_
 rename_i b6
 refine zE (zA (zA (zB (wB 0 rfl rfl rfl (wB 1 rfl rfl rfl ?_)))))
 refine wl_call (X := Nat × Nat) rfl rfl rfl rfl rfl rfl (by kernel_rfl) (fun W _ => meetings_gives f g W) ?_
 rintro ⟨c1, c2⟩ _
 refine wl_newGone ?_
 refine wl_nil (zE (zH ?_))
 refine wc_rangeG (X := Nat × Vec) (fun x => [frB b2 f, frB b3 g, ⟨b6, 50, [x.2.val (fl f g x.1).length], true, none⟩, frB c1 f, frB c2 g, x.2.bx 37 (nS (fl f g x.1))])
  (fun j x => x.1 = j ∧ x.2.OK 1 (fl f g x.1).length (nS (fl f g x.1))) (fun _ _ => False) (0, Vec.empty) rfl (by kernel_rfl) (meet_iter f g hf hg hz c1 c2) (fun _ => rfl)
  ⟨rfl, Vec.OK.empty 1⟩ [] rfl (fun k x W _ hp => ⟨RowAt.of_bx hp 3 rfl rfl, RowAt.of_bx hp 4 rfl rfl, hv.hp hp, ht.hp hp⟩) ?_ ?_ (fun _ _ _ _ _ h => h.elim)
 ·rintro j' ⟨j, V⟩ d L rec hj ⟨e1, hV⟩ hrec
  obtain rfl : j = j' := e1
  have hV : V.OK 1 (fl f g j).length (nS (fl f g j)) := hV
  have hn := fl_len f g (j + 1)
  have hfl := fl_succ f g hj
  have htm : (meetL f g).getD j 0 ∈ meetL f g := by rw [List.getD_eq_getElem?_getD, List.getElem?_eq_getElem hj]; exact List.getElem_mem hj
  obtain ⟨t, hte⟩ : ∃ t, t = (meetL f g).getD j 0 := ⟨_, rfl⟩
  have henc : encT (meetL f g) j = [str (numS t)] := by rw [hte]
  rw [← hte] at hfl htm
  rw [henc]
  have zt := hk t htm
  refine zB (wP rfl (wl_nil ?_))
  refine ne_begin 7 hrec rfl ?_
  refine wc_block (zA (zB (wB 0 rfl rfl rfl (wP rfl ?_))))
  refine wl_call1 rfl rfl rfl rfl rfl rfl (by kernel_rfl) (fun W hp => fvelocities_gives f hf t k zt hk2 W (hv.hp hp) (ht.hp hp)) ?_
  iterate 5 refine wP rfl ?_
  refine wl_nil (zE (zA (zB (wB 1 rfl rfl rfl (wP rfl ?_)))))
  refine wl_call1 rfl rfl rfl rfl rfl rfl (by kernel_rfl) (fun W hp => fvelocities_gives g hg t k zt hk2 W (hv.hp hp) (ht.hp hp)) ?_
  iterate 5 refine wP rfl ?_
  refine wl_nil (ne_then (wc_seq ?_))
  refine wc_cutS (X := Unit) (fun _ => [(2, selfP b2), (3, selfP b3), (6, selfP b6), (7, str (numS t)), (57, .bool (frEq f g t))]) (fun _ => [frB b2 f, frB b3 g, ⟨b6, 50, [V.val (fl f g j).length], true, none⟩, frB c1 f, frB c2 g, V.bx 37 (nS (fl f g j)), rawD d, rawL L rec .busy none]) (fun _ => True) ?_ ?_
  ·refine zT Tryz.mixed (by kernel_rfl) ?_
   refine qB 0 rfl rfl rfl (qP rfl ?_)
   refine wq_call1 rfl rfl rfl rfl rfl rfl (by kernel_rfl) (fun W hp => fpositionG_gives f hf t a b k ha hb zt hk1 W (hv.hp hp) (ht.hp hp)) ?_
   refine qB 1 rfl rfl rfl (qP rfl ?_)
   refine wq_call1 rfl rfl rfl rfl rfl rfl (by kernel_rfl) (fun W hp => fpositionG_gives g hg t a b k ha' hb' zt hk1 W (hv.hp hp) (ht.hp hp)) ?_
   refine qP rfl ?_
   by_cases h1 : f.at t = g.at t
   ·refine wq_upd 47 (.bool true) rfl (congrArg Value.bool ((strEqB _ _).trans (decide_eq_true (numS_inj.2 h1)))) ?_
    refine qP rfl (qP rfl (qP rfl (qP rfl ?_)))
    by_cases h2 : f.velB t = g.velB t
    ·refine wq_upd 51 (.bool false) rfl (congrArg Value.bool (by show (!_) = false; rw [strEqB, decide_eq_true (numS_inj.2 h2)]; rfl)) ?_
     refine qP rfl (qP rfl (qP rfl (qP rfl ?_)))
     by_cases h3 : f.velA t = g.velA t
     ·have e : frEq f g t = false := by simp [frEq, h2, h3]
      refine wq_upd 55 (.bool false) rfl (congrArg Value.bool (by show (!_) = false; rw [strEqB, decide_eq_true (numS_inj.2 h3)]; rfl)) ?_
      refine qP rfl (qP rfl (wq_nil (wl_nil ?_)))
      exact ne_cut () trivial ⟨rfl, rfl, rfl, rfl, by rw [e]; rfl, trivial⟩ [] rfl
     ·have e : frEq f g t = true := by simp [frEq, h1, h3]
      refine wq_upd 55 (.bool true) rfl (congrArg Value.bool (by show (!_) = true; rw [strEqB, decide_eq_false fun e => h3 (numS_inj.1 e)]; rfl)) ?_
      refine qP rfl (qP rfl (wq_nil (wl_nil ?_)))
      exact ne_cut () trivial ⟨rfl, rfl, rfl, rfl, by rw [e]; rfl, trivial⟩ [] rfl
    ·have e : frEq f g t = true := by simp [frEq, h1, h2]
     refine wq_upd 51 (.bool true) rfl (congrArg Value.bool (by show (!_) = true; rw [strEqB, decide_eq_false fun e => h2 (numS_inj.1 e)]; rfl)) ?_
     refine qP rfl ?_
     iterate 3 refine wq_skip rfl rfl ?_
     refine qP rfl (qP rfl (wq_nil (wl_nil ?_)))
     exact ne_cut () trivial ⟨rfl, rfl, rfl, rfl, by rw [e]; rfl, trivial⟩ [] rfl
   ·have e : frEq f g t = false := by simp [frEq, h1]
    refine wq_upd 47 (.bool false) rfl (congrArg Value.bool ((strEqB _ _).trans (decide_eq_false fun e => h1 (numS_inj.1 e)))) ?_
    refine qP rfl ?_
    iterate 8 refine wq_skip rfl rfl ?_
    refine qP rfl (wq_nil (wl_nil ?_))
    exact ne_cut () trivial ⟨rfl, rfl, rfl, rfl, by rw [e]; rfl, trivial⟩ [] rfl
  ·intro _ _
   refine wc_cond rfl (fun hc => ?_) (fun hc => ?_)
   ·have hc : frEq f g t = true := hc
    rw [if_pos hc] at hfl
    refine zB (wB 2 rfl rfl rfl (wP rfl ?_))
    (refine wl_buildRowZ Tryz.hZ tH rfl rfl rfl rfl rfl rfl rfl rfl rfl rfl rfl ?_; intro)
    refine wl_appendTo (V := V) (len := (fl f g j).length) (xs := nS (fl f g j)) 5 8 Tryz.vec50 (fl f g (j + 1)).length (nS (fl f g (j + 1))) rfl rfl rfl rfl rfl rfl rfl rfl rfl rfl rfl hV rfl rfl (by rw [hfl]; simp) (by rw [hfl]; simp [nS]; rfl) (by simp only [maxLen]; omega) (by omega) rfl ?_
    intro gV cV jV hV1
    refine wS 2 rfl rfl rfl (wl_nil (zN ?_))
    exact ne_round 7 (j + 1, ⟨some gV, cV, jV⟩) hrec rfl ⟨rfl, hV1⟩ [_] rfl
   ·have hc : frEq f g t = false := hc
    rw [if_neg (by rw [hc]; decide)] at hfl
    refine zI (zN ?_)
    exact ne_round 7 (j + 1, V) hrec rfl ⟨rfl, by show V.OK 1 (fl f g (j + 1)).length (nS (fl f g (j + 1))); rw [hfl]; exact hV⟩ [] (by show _ = [frB b2 f, frB b3 g, (⟨b6, 50, [V.val (fl f g (j + 1)).length], true, none⟩ : Bx), frB c1 f, frB c2 g, V.bx 37 (nS (fl f g (j + 1))), rawD d, rawL L rec .ready none] ++ []; rw [hfl]; rfl)
 ·rintro ⟨j, V⟩ d L rec ⟨e1, hV⟩
  obtain rfl : j = (meetL f g).length := e1
  have hV : V.OK 1 (fl f g (meetL f g).length).length (nS (fl f g (meetL f g).length)) := hV
  have hn := fl_len f g (meetL f g).length
  have hsl := sortQ_len (fl f g (meetL f g).length)
  have heq : eqL f g = compQ (sortQ (fl f g (meetL f g).length)) := by rw [eqL, fl, List.take_length]
  refine zN (zE (zA (zB (wB 2 rfl rfl rfl ?_))))
  refine wl_sortQ 5 128 fcmpOK hv ht (V := V) (l := fl f g (meetL f g).length) (len := (fl f g (meetL f g).length).length) rfl rfl rfl rfl rfl rfl rfl rfl hV (by omega) (fun p hp q hq => hs p (mem_fl hp) q (mem_fl hq)) ?_
  refine wl_nil (zE (zA (zB (wB 2 rfl rfl rfl ?_))))
  refine wl_compQ 5 (V := V) (l := sortQ (fl f g (meetL f g).length)) (len := (fl f g (meetL f g).length).length) rfl rfl rfl rfl rfl rfl rfl hsl.symm ⟨by rw [← hsl]; simp [nS], hV.nil, fun h => by
   have h2 := hV.cap h
   refine ⟨h2.1, h2.2.1, ?_⟩
   have h3 := h2.2.2
   rw [List.length_map] at h3 ⊢
   rw [hsl]
   exact h3⟩ (by omega) ?_
  intro V2 hV2
  rw [← heq] at hV2 ⊢
  refine wP rfl (wP rfl (wl_nil (zE (zO ?_))))
  refine ne_mark 6 rfl ?_
  exact ne_ret2 tH rfl (.tmp rfl) (.tmp rfl) V2 rfl hV2 fun W hp => NewBx.of_hp1 hp 5 rfl
-- BOXES 4
structure FrP.Sm (f : FrP) : Prop where
 ok : f.OK
 sp : szQ f.sp 1
 st : szQ f.st 3
theorem FrP.Sm.vz {f : FrP} (h : f.Sm) : szQ f.vel 2 := h.ok.hdz.mul h.sp
theorem meetZ_small {f g : FrP} (hf : f.Sm) (hg : g.Sm) : MeetZ f g ∧ ∀ t ∈ meetL f g, szQ t 28 := by
 have zg : szQ (gapQ f g) 11 := hg.ok.posz.sub hf.ok.posz
 have zm1 := hf.vz.mul hf.st
 have zm2 := hg.vz.mul hg.st
 have zs := zm1.sub zm2
 have za := zg.add zs
 have zw := hf.vz.sub hg.vz
 have w0 : f.vel ≠ g.vel → (f.vel - g.vel).num ≠ 0 := fun h => num_ne (by grind)
 refine ⟨⟨fun _ => sz2 zg hf.vz (by decide), fun h => sz2 hf.st (zg.div hf.vz (num_ne h)) (by decide), fun _ => sz2 zg hg.vz (by decide), fun h => sz2 hg.st (zg.div hg.vz (num_ne h)) (by decide),
  sz2 hf.vz hf.st (by decide), sz2 hg.vz hg.st (by decide), sz2 zm1 zm2 (by decide), sz2 zg zs (by decide), sz2 hf.vz hg.vz (by decide), fun _ => sz2 za zw (by decide)⟩, fun t ht => ?_⟩
 rcases mem_meetL.1 ht with h | h | ⟨h0, h⟩ | ⟨h0, h⟩ | ⟨h0, h⟩ <;> rw [h]
 ·exact hf.st.mono (by decide)
 ·exact hg.st.mono (by decide)
 ·exact (hf.st.add (zg.div hf.vz (num_ne h0))).mono (by decide)
 ·exact (hg.st.sub (zg.div hg.vz (num_ne h0))).mono (by decide)
 ·exact (za.div zw (w0 h0)).mono (by decide)
theorem fEqualS_gives (f g : FrP) (hf : f.Sm) (hg : g.Sm) (hax : f.ax = g.ax) (W : World) (hv : MaxP W) (ht : TabP W) :
  CallsR Tryz.prog 52 #[frV f, frV g] W (fun V : Vec => .tuple #[V.val (eqL f g).length, .int .i64 0]) (fun V => V.OK 1 (eqL f g).length (nS (eqL f g))) (fun V => [V.bx 37 (nS (eqL f g))]) := by
 obtain ⟨hz, hm⟩ := meetZ_small hf hg
 exact fEqual_gives f g hf.ok hg.ok hax hz (fun p hp q hq => sz2 (hm p hp) (hm q hq) (by decide)) 1 3 28 hf.sp hf.st hg.sp hg.st hm (by decide) (by decide) W hv ht
end Go.Proofs.YtlagebbefnnnnaaGreatDoor
