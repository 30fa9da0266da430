/-
  PlanTurns returns true.
-/
import Derived.Test.YtnpfkmbcejgnjaaGreatDoorTurnMath
import Derived.Test.YtnpfkmbcejgnjaaGreatDoorNeigh
import Derived.Test.YtnpfkmbcejgnjaaGreatDoorAwake
namespace Go.Proofs.YtnpfkmbcejgnjaaGreatDoor
open Go Go.RowKit Go.Am
set_option maxRecDepth 10000
-- BOXES 1
theorem locF_ex {rs : List (List Sd)} {n : Int} (h0 : 0 ≤ n) : ∀ k, k ≤ rs.length → n < tot (rs.take k) → ∃ q, locF rs n k = some q
  | 0, _, h => by simp [tot] at h; omega
  | k + 1, hk, h => by
    show ∃ q, (match locF rs n k with | some q => some q | none => if (tot (rs.take k) : Int) ≤ n ∧ n < tot (rs.take (k + 1)) then some (k, (n - tot (rs.take k)).toNat) else none) = some q
    cases hq : locF rs n k with
    | some q => exact ⟨q, rfl⟩
    | none =>
      by_cases hlt : n < tot (rs.take k)
      · obtain ⟨q, h1⟩ := locF_ex h0 k (by omega) hlt
        rw [hq] at h1; cases h1
      · simp only
        rw [if_pos ⟨by omega, h⟩]
        exact ⟨_, rfl⟩
theorem loc_of {rs : List (List Sd)} {r i : Nat} (hr : r < rs.length) (hi : i < (rg rs r).length) : loc rs ((tot (rs.take r) + i : Nat) : Int) = some (r, i) := by
  obtain ⟨q, hq⟩ := locF_ex (rs := rs) (n := ((tot (rs.take r) + i : Nat) : Int)) (by omega) rs.length (Nat.le_refl _) (by rw [List.take_length]; have := tot_at hr hi; omega)
  have hq' : loc rs ((tot (rs.take r) + i : Nat) : Int) = some q := hq
  obtain ⟨h1, h2, h3⟩ := loc_at hq'
  have e : tot (rs.take r) + i = tot (rs.take q.1) + q.2 := by omega
  have e1 := pl_at hr hi
  rw [e, pl_at h1 h2] at e1
  rw [hq', ← e1]
theorem trn_bound (rs : List (List Sd)) (r : Nat) : ∀ k : Nat, -(k : Int) ≤ trn rs r k ∧ trn rs r k ≤ k
  | 0 => ⟨by show -(0 : Int) ≤ 0; decide, by show (0 : Int) ≤ 0; decide⟩
  | k + 1 => by
    obtain ⟨h1, h2⟩ := trn_bound rs r k
    have e : trn rs r (k + 1) = trn rs r k + (if lefq rs (r, k) = true then 1 else -1) := rfl
    rw [e]
    split <;> omega
set_option maxHeartbeats 8000000 in
theorem turns_gives (W : World) (p : Option Addr) (cap : Nat) (rs : List (List Sd)) (hn : rs.length < 4611686018427387904) (hT : tot rs < 4611686018427387904) (hR : RingsP W p rs) (ht : TabP W) :
    CallsR Tryz.prog 3 #[planV p rs.length cap] W (fun _ : Unit => .bool true) (fun _ => True) (fun _ => []) := by
  refine calls_enter (args := [planV p rs.length cap]) Tryz.func3 rfl rfl rfl ?_
  refine zA ?_
  refine zB ?_
  (refine wl_box rfl rfl rfl rfl ?_; intro)
  refine wl_pure Tryz.hT rfl rfl rfl ?_
  refine wl_nil ?_
  rename_i b1
  refine zE ?_
  refine zA ?_
  refine zA ?_
  refine zB ?_
  refine wl_loadBx 0 Tryz.hT rfl rfl rfl rfl rfl rfl rfl rfl ?_
  refine wl_call1 rfl rfl rfl rfl rfl rfl (by kernel_rfl) (fun W hp => fine_gives W p cap rs hn hT (hR.hp hp)) ?_
  refine wl_pure Tryz.hT rfl rfl rfl ?_
  refine wl_nil ?_
  refine zE ?_
  refine wc_cond rfl (fun hfine => ?_) (fun hfine => ?_)
  · refine zA ?_
    refine zB ?_
    refine wl_call1 rfl rfl rfl rfl rfl rfl (by kernel_rfl) (fun W hp => awake_gives W (ht.hp hp)) ?_
    refine wl_pure Tryz.hT rfl rfl rfl ?_
    refine wl_nil ?_
    refine zE ?_
    refine zO ?_
    refine zP ?_
    exact ne_ret1 Tryz.hT rfl (.tmp rfl) () rfl trivial fun W _ => NewBx.nil _ _
  have hfine : fineB rs = true := by simpa using hfine
  unfold fineB at hfine
  obtain ⟨_, hc0⟩ := Bool.and_eq_true_iff.1 hfine
  have hc : chk rs = 0 := by simpa using hc0
  clear hfine hc0
  obtain ⟨hne, h24, h0⟩ := chk_ne hc
  refine zI ?_
  refine zE ?_
  refine zA ?_
  refine zB ?_
  refine wl_pure Tryz.hT rfl rfl rfl ?_
  refine wl_nil ?_
  refine zE ?_
  refine zA ?_
  refine zA ?_
  refine zB ?_
  refine wl_pure Tryz.hT rfl rfl rfl ?_
  refine wl_loadBx 0 Tryz.hT rfl rfl rfl rfl rfl rfl rfl rfl ?_
  refine wl_pure Tryz.hT rfl rfl rfl ?_
  refine wl_pure Tryz.hT rfl rfl rfl ?_
  refine wl_nil ?_
  refine zE ?_
  refine zH ?_
  refine wc_loop (X := Nat) (fun r => [(1, .pointer (some ⟨b1, 0, none⟩)), (3, .int .i64 (tot (rs.take r) : Nat)), (23, slv p rs.length cap), (24, .int .i64 (rs.length : Nat)), (25, .int .i64 (r : Nat))]) (fun _ => [⟨b1, 24, [slv p rs.length cap], true, none⟩])
    (fun r => r ≤ rs.length) (fun r => rs.length - r) 0 (Nat.zero_le _) ⟨rfl, rfl, rfl, rfl, rfl, trivial⟩ [] rfl ?_
  intro r hr
  refine zA ?_
  refine zB ?_
  refine wl_pure Tryz.hT rfl rfl rfl ?_
  refine wl_nil ?_
  refine zE ?_
  refine zA ?_
  refine wc_cond rfl (fun h => ?_) (fun h => ?_)
  rotate_left
  · refine zJ ?_
    refine zK ?_
    refine zK ?_
    refine zL ?_
    refine zE ?_
    refine zA ?_
    refine zB ?_
    refine wl_call1 rfl rfl rfl rfl rfl rfl (by kernel_rfl) (fun W hp => awake_gives W (ht.hp hp)) ?_
    refine wl_pure Tryz.hT rfl rfl rfl ?_
    refine wl_nil ?_
    refine zE ?_
    refine zO ?_
    exact ne_ret1 Tryz.hT rfl (.tmp rfl) () rfl trivial fun W _ => NewBx.nil _ _
  have hr : r < rs.length := by have h' : decide ((r : Int) < (rs.length : Nat)) = true := h; rw [decide_eq_true_iff] at h'; omega
  clear h
  obtain ⟨b, off, rfl, hrow⟩ := hR.row hr
  obtain ⟨q, cap2, hq1, hq2⟩ := hrow r hr
  have t1 := tot_take_succ hr
  have t2 := tot_take_le rs (r + 1)
  refine zI ?_
  refine zE ?_
  refine zA ?_
  refine zH ?_
  refine zA ?_
  refine zB ?_
  refine wl_pure Tryz.hT rfl rfl rfl ?_
  refine wl_indexAddr Tryz.hT rfl rfl rfl rfl rfl rfl rfl (by omega) (by omega) ?_
  refine wl_load rfl rfl rfl rfl (fun W hp => RowAt.load 0 Tryz.hT rfl ((fun W hp => hq1.hp hp) W hp) rfl) ?_
  refine wl_pure Tryz.hT rfl rfl rfl ?_
  refine wl_pure Tryz.hT rfl rfl rfl ?_
  refine wl_nil ?_
  refine zE ?_
  refine zA ?_
  refine zB ?_
  refine wl_pure Tryz.hT rfl rfl rfl ?_
  refine wl_nil ?_
  refine zE ?_
  refine zA ?_
  refine zA ?_
  refine zB ?_
  refine wl_pure Tryz.hT rfl rfl rfl ?_
  refine wl_pure Tryz.hT rfl rfl rfl ?_
  refine wl_pure Tryz.hT rfl rfl rfl ?_
  refine wl_nil ?_
  refine zE ?_
  refine zH ?_
  refine wc_loop (X := Nat) (fun i => [(1, .pointer (some ⟨b1, 0, none⟩)), (3, .int .i64 ((tot (rs.take r) + i : Nat) : Int)), (4, .int .i64 (r : Nat)), (6, .int .i64 (trn rs r i)), (23, slv (some ⟨b, off, none⟩) rs.length cap), (24, .int .i64 (rs.length : Nat)), (25, .int .i64 (r : Nat)), (31, .int .i64 ((rg rs r).length : Nat)), (32, .int .i64 (i : Nat))]) (fun _ => [⟨b1, 24, [slv (some ⟨b, off, none⟩) rs.length cap], true, none⟩])
    (fun i => i ≤ (rg rs r).length) (fun i => (rg rs r).length - i) 0 (Nat.zero_le _) ⟨rfl, rfl, rfl, rfl, rfl, rfl, rfl, rfl, rfl, trivial⟩ [] rfl ?_
  intro i hi
  refine zA ?_
  refine zB ?_
  refine wl_pure Tryz.hT rfl rfl rfl ?_
  refine wl_nil ?_
  refine zE ?_
  refine zA ?_
  refine wc_cond rfl (fun h => ?_) (fun h => ?_)
  rotate_left
  · have e : i = (rg rs r).length := by have h' : decide ((i : Int) < ((rg rs r).length : Nat)) = false := h; rw [decide_eq_false_iff_not] at h'; omega
    subst e
    have htr := ring_turns hc hr
    have key : ∀ {Q : Prop}, Q → Q := fun h => h
    refine zJ ?_
    refine zK ?_
    refine zK ?_
    refine zL ?_
    refine zE ?_
    refine zA ?_
    refine zB ?_
    refine wl_pure Tryz.hT rfl rfl rfl ?_
    refine wl_pure Tryz.hT rfl rfl rfl ?_
    refine wl_part 92 rfl (fun h92 => ?_) (fun h92 => ?_)
    · have hr0 : r = 0 := by have h' : ((r : Int) == 0) = true := h92; rw [beq_iff_eq] at h'; omega
      have htr4 : trn rs r (rg rs r).length = 4 := by rw [htr, if_pos hr0]
      refine wl_pure Tryz.hT rfl rfl rfl ?_
      refine wl_pure Tryz.hT rfl rfl rfl ?_
      refine wl_pure Tryz.hT rfl rfl rfl ?_
      refine wl_upd 95 (.bool false) rfl (congrArg Value.bool (by show (trn rs r (rg rs r).length != 4) = false; rw [htr4]; rfl)) ?_
      refine wl_pure Tryz.hT rfl rfl rfl ?_
      refine wl_pure Tryz.hT rfl rfl rfl ?_
      refine wl_pure Tryz.hT rfl rfl rfl ?_
      refine wl_pure Tryz.hT rfl rfl rfl ?_
      refine wl_upd 99 (.bool false) rfl (congrArg Value.bool (by show decide ((r : Int) > 0) = false; rw [decide_eq_false_iff_not]; omega)) ?_
      refine wl_pure Tryz.hT rfl rfl rfl ?_
      refine wl_skip rfl rfl ?_
      refine wl_skip rfl rfl ?_
      refine wl_pure Tryz.hT rfl rfl rfl ?_
      refine wl_pure Tryz.hT rfl rfl rfl ?_
      refine wl_nil ?_
      refine zE ?_
      refine zS rfl ?_
      refine zI ?_
      refine zN ?_
      refine zE ?_
      refine zB ?_
      refine wl_pure Tryz.hT rfl rfl rfl ?_
      refine wl_pure Tryz.hT rfl rfl rfl ?_
      refine wl_nil ?_
      refine ne_loop (r + 1) hr (by omega) ⟨rfl, congrArg (fun z => some (Value.int .i64 z)) (by rw [t1]), rfl, rfl, congrArg (fun z => some (Value.int .i64 z)) (wrap_id (x := (r : Int) + 1) (by omega) (by omega)), trivial⟩ [] rfl
    · have hr0 : r ≠ 0 := by have h' : ((r : Int) == 0) = false := h92; rw [beq_eq_false_iff_ne] at h'; omega
      have htr4 : trn rs r (rg rs r).length = -4 := by rw [htr, if_neg hr0]
      refine wl_pure Tryz.hT rfl rfl rfl ?_
      refine wl_skip rfl rfl ?_
      refine wl_skip rfl rfl ?_
      refine wl_pure Tryz.hT rfl rfl rfl ?_
      refine wl_pure Tryz.hT rfl rfl rfl ?_
      refine wl_pure Tryz.hT rfl rfl rfl ?_
      refine wl_pure Tryz.hT rfl rfl rfl ?_
      refine wl_upd 99 (.bool true) rfl (congrArg Value.bool (by show decide ((r : Int) > 0) = true; rw [decide_eq_true_iff]; omega)) ?_
      refine wl_pure Tryz.hT rfl rfl rfl ?_
      refine wl_pure Tryz.hT rfl rfl rfl ?_
      refine wl_pure Tryz.hT rfl rfl rfl ?_
      refine wl_upd 102 (.bool false) rfl (congrArg Value.bool (by show (trn rs r (rg rs r).length != -4) = false; rw [htr4]; rfl)) ?_
      refine wl_pure Tryz.hT rfl rfl rfl ?_
      refine wl_pure Tryz.hT rfl rfl rfl ?_
      refine wl_nil ?_
      refine zE ?_
      refine zS rfl ?_
      refine zI ?_
      refine zN ?_
      refine zE ?_
      refine zB ?_
      refine wl_pure Tryz.hT rfl rfl rfl ?_
      refine wl_pure Tryz.hT rfl rfl rfl ?_
      refine wl_nil ?_
      refine ne_loop (r + 1) hr (by omega) ⟨rfl, congrArg (fun z => some (Value.int .i64 z)) (by rw [t1]), rfl, rfl, congrArg (fun z => some (Value.int .i64 z)) (wrap_id (x := (r : Int) + 1) (by omega) (by omega)), trivial⟩ [] rfl
  have hi : i < (rg rs r).length := by have h' : decide ((i : Int) < ((rg rs r).length : Nat)) = true := h; rw [decide_eq_true_iff] at h'; omega
  clear h
  have hp1 := prv_lt hi
  have hp2 := nxt_lt hi
  have ec : cvxV rs ((tot (rs.take r) + i : Nat) : Int) = .tuple #[.bool (lefq rs (r, i)), .int .i64 0] := by unfold cvxV; rw [loc_of hr hi]
  have en : nbrV rs ((tot (rs.take r) + i : Nat) : Int) = .tuple #[.int .i64 ((tot (rs.take r) + prv (rg rs r).length i : Nat)), .int .i64 ((tot (rs.take r) + nxt (rg rs r).length i : Nat)), .int .i64 0] := by unfold nbrV; rw [loc_of hr hi]
  have eb : nbrV rs ((tot (rs.take r) + prv (rg rs r).length i : Nat) : Int) = .tuple #[.int .i64 ((tot (rs.take r) + prv (rg rs r).length (prv (rg rs r).length i) : Nat)), .int .i64 ((tot (rs.take r) + i : Nat)), .int .i64 0] := by unfold nbrV; rw [loc_of hr hp1]; simp only [nxt_prv hi]
  have eh : nbrV rs ((tot (rs.take r) + nxt (rg rs r).length i : Nat) : Int) = .tuple #[.int .i64 ((tot (rs.take r) + i : Nat)), .int .i64 ((tot (rs.take r) + nxt (rg rs r).length (nxt (rg rs r).length i) : Nat)), .int .i64 0] := by unfold nbrV; rw [loc_of hr hp2]; simp only [prv_nxt hi]
  refine zI ?_
  refine zE ?_
  refine zA ?_
  refine zH ?_
  refine zA ?_
  refine zB ?_
  refine wl_loadBx 0 Tryz.hT rfl rfl rfl rfl rfl rfl rfl rfl ?_
  refine wl_pure Tryz.hT rfl rfl rfl ?_
  refine wl_call1 rfl rfl rfl rfl rfl rfl (by kernel_rfl) (fun W hp => (convex_ok W _ cap rs _ hn (hR.hp hp) hc).cast ec) ?_
  refine wl_pure Tryz.hT rfl rfl rfl ?_
  refine wl_pure Tryz.hT rfl rfl rfl ?_
  refine wl_pure Tryz.hT rfl rfl rfl ?_
  refine wl_pure Tryz.hT rfl rfl rfl ?_
  refine wl_pure Tryz.hT rfl rfl rfl ?_
  refine wl_nil ?_
  refine zE ?_
  refine zA ?_
  refine zB ?_
  refine wl_loadBx 0 Tryz.hT rfl rfl rfl rfl rfl rfl rfl rfl ?_
  refine wl_pure Tryz.hT rfl rfl rfl ?_
  refine wl_call1 rfl rfl rfl rfl rfl rfl (by kernel_rfl) (fun W hp => (neigh_ok W _ cap rs _ hn (hR.hp hp) hc).cast en) ?_
  refine wl_pure Tryz.hT rfl rfl rfl ?_
  refine wl_pure Tryz.hT rfl rfl rfl ?_
  refine wl_pure Tryz.hT rfl rfl rfl ?_
  refine wl_pure Tryz.hT rfl rfl rfl ?_
  refine wl_pure Tryz.hT rfl rfl rfl ?_
  refine wl_pure Tryz.hT rfl rfl rfl ?_
  refine wl_pure Tryz.hT rfl rfl rfl ?_
  refine wl_nil ?_
  refine zE ?_
  refine zA ?_
  refine zA ?_
  refine zB ?_
  refine wl_pure Tryz.hT rfl rfl rfl ?_
  refine wl_pure Tryz.hT rfl rfl rfl ?_
  refine wl_pure Tryz.hT rfl rfl rfl ?_
  refine wl_pure Tryz.hT rfl rfl rfl ?_
  refine wl_pure Tryz.hT rfl rfl rfl ?_
  refine wl_pure Tryz.hT rfl rfl rfl ?_
  refine wl_nil ?_
  refine zE ?_
  refine zS rfl ?_
  refine zI ?_
  refine zE ?_
  refine zA ?_
  refine zB ?_
  refine wl_loadBx 0 Tryz.hT rfl rfl rfl rfl rfl rfl rfl rfl ?_
  refine wl_pure Tryz.hT rfl rfl rfl ?_
  refine wl_call1 rfl rfl rfl rfl rfl rfl (by kernel_rfl) (fun W hp => (neigh_ok W _ cap rs _ hn (hR.hp hp) hc).cast eb) ?_
  refine wl_pure Tryz.hT rfl rfl rfl ?_
  refine wl_pure Tryz.hT rfl rfl rfl ?_
  refine wl_pure Tryz.hT rfl rfl rfl ?_
  refine wl_pure Tryz.hT rfl rfl rfl ?_
  refine wl_pure Tryz.hT rfl rfl rfl ?_
  refine wl_pure Tryz.hT rfl rfl rfl ?_
  refine wl_pure Tryz.hT rfl rfl rfl ?_
  refine wl_nil ?_
  refine zE ?_
  refine zA ?_
  refine zB ?_
  refine wl_loadBx 0 Tryz.hT rfl rfl rfl rfl rfl rfl rfl rfl ?_
  refine wl_pure Tryz.hT rfl rfl rfl ?_
  refine wl_call1 rfl rfl rfl rfl rfl rfl (by kernel_rfl) (fun W hp => (neigh_ok W _ cap rs _ hn (hR.hp hp) hc).cast eh) ?_
  refine wl_pure Tryz.hT rfl rfl rfl ?_
  refine wl_pure Tryz.hT rfl rfl rfl ?_
  refine wl_pure Tryz.hT rfl rfl rfl ?_
  refine wl_pure Tryz.hT rfl rfl rfl ?_
  refine wl_pure Tryz.hT rfl rfl rfl ?_
  refine wl_pure Tryz.hT rfl rfl rfl ?_
  refine wl_pure Tryz.hT rfl rfl rfl ?_
  refine wl_nil ?_
  refine zE ?_
  refine zA ?_
  refine zA ?_
  refine zB ?_
  refine wl_pure Tryz.hT rfl rfl rfl ?_
  refine wl_pure Tryz.hT rfl rfl rfl ?_
  refine wl_pure Tryz.hT rfl rfl rfl ?_
  refine wl_pure Tryz.hT rfl rfl rfl ?_
  refine wl_pure Tryz.hT rfl rfl rfl ?_
  refine wl_pure Tryz.hT rfl rfl rfl ?_
  refine wl_pure Tryz.hT rfl rfl rfl ?_
  refine wl_pure Tryz.hT rfl rfl rfl ?_
  refine wl_pure Tryz.hT rfl rfl rfl ?_
  refine wl_pure Tryz.hT rfl rfl rfl ?_
  refine wl_upd 76 (.bool false) rfl (congrArg Value.bool (by simp)) ?_
  refine wl_pure Tryz.hT rfl rfl rfl ?_
  refine wl_pure Tryz.hT rfl rfl rfl ?_
  refine wl_pure Tryz.hT rfl rfl rfl ?_
  refine wl_pure Tryz.hT rfl rfl rfl ?_
  refine wl_pure Tryz.hT rfl rfl rfl ?_
  refine wl_upd 81 (.bool false) rfl (congrArg Value.bool (by simp)) ?_
  refine wl_pure Tryz.hT rfl rfl rfl ?_
  refine wl_nil ?_
  refine zE ?_
  refine zS rfl ?_
  refine zI ?_
  refine zE ?_
  refine zA ?_
  refine zA ?_
  refine zB ?_
  refine wl_pure Tryz.hT rfl rfl rfl ?_
  refine wl_nil ?_
  obtain ⟨tb1, tb2⟩ := trn_bound rs r i
  have es : trn rs r (i + 1) = trn rs r i + (if lefq rs (r, i) = true then 1 else -1) := rfl
  refine zE ?_
  refine wc_cond rfl (fun h => ?_) (fun h => ?_)
  · refine zB ?_
    refine wl_pure Tryz.hT rfl rfl rfl ?_
    refine wl_pure Tryz.hT rfl rfl rfl ?_
    refine wl_pure Tryz.hT rfl rfl rfl ?_
    refine wl_nil ?_
    have e : w64 (trn rs r i + 1) = trn rs r (i + 1) := by rw [es, if_pos h, w64_id (by omega) (by omega)]
    refine zE ?_
    refine zB ?_
    refine wl_upd 6 _ rfl (congrArg (Value.int .i64) e) ?_
    refine wl_pure Tryz.hT rfl rfl rfl ?_
    refine wl_pure Tryz.hT rfl rfl rfl ?_
    refine wl_pure Tryz.hT rfl rfl rfl ?_
    refine wl_nil ?_
    refine zN ?_
    refine zE ?_
    refine zB ?_
    refine wl_pure Tryz.hT rfl rfl rfl ?_
    refine wl_pure Tryz.hT rfl rfl rfl ?_
    refine wl_nil ?_
    exact ne_loop (i + 1) hi (by omega) ⟨rfl, congrArg (fun z => some (Value.int .i64 z)) (wrap_id (x := ((tot (rs.take r) + i : Nat) : Int) + 1) (by omega) (by omega)), rfl, rfl, rfl, rfl, rfl, rfl, congrArg (fun z => some (Value.int .i64 z)) (wrap_id (x := (i : Int) + 1) (by omega) (by omega)), trivial⟩ [] rfl
  · refine zB ?_
    refine wl_pure Tryz.hT rfl rfl rfl ?_
    refine wl_pure Tryz.hT rfl rfl rfl ?_
    refine wl_pure Tryz.hT rfl rfl rfl ?_
    refine wl_nil ?_
    have e : w64 (trn rs r i - 1) = trn rs r (i + 1) := by rw [es, if_neg (by rw [h]; decide), w64_id (by omega) (by omega)]; omega
    refine zE ?_
    refine zB ?_
    refine wl_upd 6 _ rfl (congrArg (Value.int .i64) e) ?_
    refine wl_pure Tryz.hT rfl rfl rfl ?_
    refine wl_pure Tryz.hT rfl rfl rfl ?_
    refine wl_pure Tryz.hT rfl rfl rfl ?_
    refine wl_nil ?_
    refine zN ?_
    refine zE ?_
    refine zB ?_
    refine wl_pure Tryz.hT rfl rfl rfl ?_
    refine wl_pure Tryz.hT rfl rfl rfl ?_
    refine wl_nil ?_
    exact ne_loop (i + 1) hi (by omega) ⟨rfl, congrArg (fun z => some (Value.int .i64 z)) (wrap_id (x := ((tot (rs.take r) + i : Nat) : Int) + 1) (by omega) (by omega)), rfl, rfl, rfl, rfl, rfl, rfl, congrArg (fun z => some (Value.int .i64 z)) (wrap_id (x := (i : Int) + 1) (by omega) (by omega)), trivial⟩ [] rfl
end Go.Proofs.YtnpfkmbcejgnjaaGreatDoor
