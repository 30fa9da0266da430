/-
  The sides before and behind a side.
-/
import Derived.Test.YtnpfkmbcejgnjaaGreatDoorFind2
namespace Go.Proofs.YtnpfkmbcejgnjaaGreatDoor
open Go Go.RowKit Go.Am
set_option maxRecDepth 10000
-- BOXES 3
theorem locF_at {rs : List (List Sd)} {n : Int} : ∀ k, k ≤ rs.length → ∀ q, locF rs n k = some q → q.1 < k ∧ q.2 < (rg rs q.1).length ∧ n = tot (rs.take q.1) + q.2
  | 0, _, q, h => by cases h
  | k + 1, hk, q, h => by
    have ht := tot_take_succ (show k < rs.length by omega)
    have h' : (match locF rs n k with | some q => some q | none => if (tot (rs.take k) : Int) ≤ n ∧ n < tot (rs.take (k + 1)) then some (k, (n - tot (rs.take k)).toNat) else none) = some q := h
    cases hq : locF rs n k with
    | some q2 =>
      rw [hq] at h'
      obtain rfl : q2 = q := by simpa using h'
      obtain ⟨h1, h2, h3⟩ := locF_at k (by omega) q2 hq
      exact ⟨by omega, h2, h3⟩
    | none =>
      rw [hq] at h'
      simp only at h'
      split at h'
      · rename_i hc
        obtain rfl := Option.some.inj h'
        exact ⟨by simp only; omega, by simp only; omega, by simp only; omega⟩
      · cases h'
theorem loc_at {rs : List (List Sd)} {n : Int} {q : Nat × Nat} (h : loc rs n = some q) : q.1 < rs.length ∧ q.2 < (rg rs q.1).length ∧ n = tot (rs.take q.1) + q.2 := locF_at rs.length (Nat.le_refl _) q h
theorem tot_lt {rs : List (List Sd)} (hne : ∀ l ∈ rs, l ≠ []) {j : Nat} : ∀ d, j + d + 1 ≤ rs.length → tot (rs.take j) < tot (rs.take (j + d + 1))
  | 0, h => by
    have h1 := tot_take_succ (show j < rs.length by omega)
    have h2 := List.length_pos_iff.2 (hne _ (List.mem_of_getElem? (rg_get (show j < rs.length by omega))))
    show tot (rs.take j) < tot (rs.take (j + 1))
    omega
  | d + 1, h => by
    have h1 := tot_lt hne (j := j) d (by omega)
    have h2 := tot_take_succ (show j + d + 1 < rs.length by omega)
    show tot (rs.take j) < tot (rs.take (j + d + 1 + 1))
    omega
/-- What Neighbours returns. -/
def nbrV (rs : List (List Sd)) (n : Int) : Value := match loc rs n with
  | some (k, i) => .tuple #[.int .i64 ((tot (rs.take k) + prv (rg rs k).length i : Nat)), .int .i64 ((tot (rs.take k) + nxt (rg rs k).length i : Nat)), .int .i64 0]
  | none => .tuple #[.int .i64 0, .int .i64 0, .int .i64 2]
set_option maxHeartbeats 4000000 in
theorem neigh_ok (W : World) (p : Option Addr) (cap : Nat) (rs : List (List Sd)) (n : Int) (hn : rs.length < 4611686018427387904) (hR : RingsP W p rs) (hc : chk rs = 0) :
    CallsR Tryz.prog 15 #[planV p rs.length cap, .int .i64 n] W (fun _ : Unit => nbrV rs n) (fun _ => True) (fun _ => []) := by
  obtain ⟨hne, hT, _⟩ := chk_ne hc
  refine calls_enter (args := [planV p rs.length cap, .int .i64 n]) Tryz.func15 rfl rfl rfl ?_
  refine zA ?_
  refine zB ?_
  (refine wl_box rfl rfl rfl rfl ?_; intro)
  refine wl_pure Tryz.hT rfl rfl rfl ?_
  refine wl_pure Tryz.hT rfl rfl rfl ?_
  refine wl_pure Tryz.hT rfl rfl rfl ?_
  refine wl_nil ?_
  rename_i b2
  refine zE ?_
  refine zA ?_
  refine zB ?_
  refine wl_loadBx 0 Tryz.hT rfl rfl rfl rfl rfl rfl rfl rfl ?_
  refine wl_pure Tryz.hT rfl rfl rfl ?_
  cases hq : loc rs n with
  | none =>
    refine wl_call1 rfl rfl rfl rfl rfl rfl (by kernel_rfl) (fun W hp => (find_ok W p cap rs n hn (hR.hp hp) hc).cast (by rw [fndV, hq])) ?_
    refine wl_pure Tryz.hT rfl rfl rfl ?_
    refine wl_pure Tryz.hT rfl rfl rfl ?_
    refine wl_pure Tryz.hT rfl rfl rfl ?_
    refine wl_pure Tryz.hT rfl rfl rfl ?_
    (refine wl_allocZ Tryz.hZ rfl rfl rfl rfl ?_; intro)
    refine wl_pure Tryz.hT rfl rfl rfl ?_
    refine wl_storeBx 1 Tryz.hT rfl rfl rfl rfl rfl rfl rfl rfl rfl rfl rfl ?_
    refine wl_pure Tryz.hT rfl rfl rfl ?_
    refine wl_nil ?_
    refine zE ?_
    refine zA ?_
    refine zA ?_
    refine zB ?_
    refine wl_pure Tryz.hT rfl rfl rfl ?_
    refine wl_pure Tryz.hT rfl rfl rfl ?_
    refine wl_nil ?_
    refine zE ?_
    refine zR rfl ?_
    refine zA ?_
    refine zB ?_
    refine wl_pure Tryz.hT rfl rfl rfl ?_
    refine wl_pure Tryz.hT rfl rfl rfl ?_
    refine wl_pure Tryz.hT rfl rfl rfl ?_
    refine wl_pure Tryz.hT rfl rfl rfl ?_
    refine wl_nil ?_
    refine zE ?_
    refine zO ?_
    refine zP ?_
    have e : nbrV rs n = .tuple #[.int .i64 0, .int .i64 0, .int .i64 2] := by unfold nbrV; rw [hq]
    exact ne_ret3 Tryz.hT rfl (.tmp rfl) (.tmp rfl) (.tmp rfl) () e.symm trivial fun W _ => NewBx.nil _ _
  | some q =>
    obtain ⟨k, i⟩ := q
    obtain ⟨hk, hi, hn2⟩ := loc_at hq
    have hk : k < rs.length := hk
    have hi : i < (rg rs k).length := hi
    have hn2 : n = tot (rs.take k) + i := hn2
    have t1 := tot_take_succ hk
    have t2 := tot_take_le rs (k + 1)
    refine wl_call1 rfl rfl rfl rfl rfl rfl (by kernel_rfl) (fun W hp => (find_ok W p cap rs n hn (hR.hp hp) hc).cast (by rw [fndV, hq])) ?_
    refine wl_pure Tryz.hT rfl rfl rfl ?_
    refine wl_pure Tryz.hT rfl rfl rfl ?_
    refine wl_pure Tryz.hT rfl rfl rfl ?_
    refine wl_pure Tryz.hT rfl rfl rfl ?_
    (refine wl_allocZ Tryz.hZ rfl rfl rfl rfl ?_; intro)
    refine wl_pure Tryz.hT rfl rfl rfl ?_
    refine wl_storeBx 1 Tryz.hT rfl rfl rfl rfl rfl rfl rfl rfl rfl rfl rfl ?_
    refine wl_pure Tryz.hT rfl rfl rfl ?_
    refine wl_nil ?_
    rename_i b8
    refine zE ?_
    refine zA ?_
    refine zA ?_
    refine zB ?_
    refine wl_pure Tryz.hT rfl rfl rfl ?_
    refine wl_pure Tryz.hT rfl rfl rfl ?_
    refine wl_nil ?_
    refine zE ?_
    refine zS rfl ?_
    refine zI ?_
    refine zE ?_
    refine zA ?_
    refine zB ?_
    refine wl_pure Tryz.hT rfl rfl rfl ?_
    refine wl_nil ?_
    refine zE ?_
    refine zA ?_
    refine zA ?_
    refine zB ?_
    refine wl_pure Tryz.hT rfl rfl rfl ?_
    refine wl_loadBx 0 Tryz.hT rfl rfl rfl rfl rfl rfl rfl rfl ?_
    refine wl_pure Tryz.hT rfl rfl rfl ?_
    refine wl_pure Tryz.hT rfl rfl rfl ?_
    refine wl_nil ?_
    refine zE ?_
    refine zH ?_
    refine wc_loop (X := Nat) (fun j => [(1, .int .i64 n), (7, .int .i64 (tot (rs.take k) : Nat)), (10, .int .i64 (tot (rs.take j) : Nat)), (24, slv p rs.length cap), (25, .int .i64 (rs.length : Nat)), (26, .int .i64 (j : Nat))]) (fun _ => [⟨b2, 24, [slv p rs.length cap], true, none⟩])
      (fun j => j ≤ k) (fun j => rs.length - j) 0 (Nat.zero_le _) ⟨rfl, rfl, rfl, rfl, rfl, rfl, trivial⟩ [_] rfl ?_
    intro j hj
    refine zA ?_
    refine zB ?_
    refine wl_pure Tryz.hT rfl rfl rfl ?_
    refine wl_nil ?_
    refine zE ?_
    refine zA ?_
    refine wc_cond rfl (fun h => ?_) (fun h => ?_)
    rotate_left
    · have h' : decide ((j : Int) < (rs.length : Nat)) = false := h
      rw [decide_eq_false_iff_not] at h'
      omega
    have hjl : j < rs.length := by omega
    obtain ⟨b, off, rfl, hrow⟩ := hR.row hjl
    obtain ⟨q, cap2, hq1, hq2⟩ := hrow j hjl
    refine zI ?_
    refine zE ?_
    refine zA ?_
    refine zH ?_
    refine zA ?_
    refine zB ?_
    refine wl_indexAddr Tryz.hT rfl rfl rfl rfl rfl rfl rfl (by omega) (by omega) ?_
    refine wl_load rfl rfl rfl rfl (fun W hp => RowAt.load 0 Tryz.hT rfl ((fun W hp => hq1.hp hp) W hp) rfl) ?_
    refine wl_pure Tryz.hT rfl rfl rfl ?_
    refine wl_nil ?_
    refine zE ?_
    refine zA ?_
    refine zA ?_
    refine zB ?_
    refine wl_pure Tryz.hT rfl rfl rfl ?_
    refine wl_pure Tryz.hT rfl rfl rfl ?_
    refine wl_pure Tryz.hT rfl rfl rfl ?_
    refine wl_nil ?_
    refine zE ?_
    refine wc_cond rfl (fun h2 => ?_) (fun h2 => ?_)
    · have h' : (((tot (rs.take j) : Nat) : Int) == ((tot (rs.take k) : Nat) : Int)) = true := h2
      rw [beq_iff_eq] at h'
      have e : k = j := by
        rcases Nat.lt_or_ge j k with hlt | hge
        · have := tot_lt hne (j := j) (k - j - 1) (by omega)
          rw [show j + (k - j - 1) + 1 = k by omega] at this
          omega
        · omega
      subst e
      refine zA ?_
      refine zB ?_
      refine wl_pure Tryz.hT rfl rfl rfl ?_
      refine wl_pure Tryz.hT rfl rfl rfl ?_
      refine wl_pure Tryz.hT rfl rfl rfl ?_
      refine wl_nil ?_
      refine zE ?_
      refine zJ ?_
      refine zK ?_
      refine zM rfl ?_
      refine zK ?_
      refine zK ?_
      refine zL ?_
      refine zE ?_
      refine zA ?_
      refine zT Tryz.mixed (by kernel_rfl) ?_
      have hL : ((rg rs k).length : Int) ≠ 0 := by omega
      refine wq_pure Tryz.hT rfl rfl rfl ?_
      refine wq_pure Tryz.hT rfl rfl rfl ?_
      refine wq_pure Tryz.hT rfl rfl rfl ?_
      refine wq_pure Tryz.hT rfl rfl rfl ?_
      refine wq_upd 43 (.int .i64 (i : Nat)) rfl (congrArg (Value.int .i64) (show w64 (n - (tot (rs.take k) : Nat)) = (i : Nat) by rw [w64_id (by omega) (by omega)]; omega)) ?_
      refine wq_pure Tryz.hT rfl rfl rfl ?_
      refine wq_pure Tryz.hT rfl rfl rfl ?_
      refine wq_pure Tryz.hT rfl rfl rfl ?_
      refine wq_upd 46 (.int .i64 ((i + (rg rs k).length - 1 : Nat) : Int)) rfl (congrArg (Value.int .i64) (show w64 (w64 ((i : Nat) + ((rg rs k).length : Nat)) - 1) = ((i + (rg rs k).length - 1 : Nat) : Int) by rw [w64_id (x := (i : Nat) + ((rg rs k).length : Nat)) (by omega) (by omega), w64_id (by omega) (by omega)]; omega)) ?_
      refine wq_pure Tryz.hT rfl rfl rfl ?_
      refine wq_rem rfl rfl rfl rfl rfl hL ?_
      refine wq_upd 48 (.int .i64 (prv (rg rs k).length i : Nat)) rfl (congrArg (Value.int .i64) (show Int.tmod ((i + (rg rs k).length - 1 : Nat) : Int) ((rg rs k).length : Nat) = (prv (rg rs k).length i : Nat) from (Int.ofNat_tmod _ _).symm)) ?_
      refine wq_pure Tryz.hT rfl rfl rfl ?_
      have hp1 : prv (rg rs k).length i < (rg rs k).length := Nat.mod_lt _ (by omega)
      have hp2 : nxt (rg rs k).length i < (rg rs k).length := Nat.mod_lt _ (by omega)
      refine wq_upd 49 (.int .i64 ((tot (rs.take k) + prv (rg rs k).length i : Nat))) rfl (congrArg (Value.int .i64) (show w64 ((tot (rs.take k) : Nat) + (prv (rg rs k).length i : Nat)) = ((tot (rs.take k) + prv (rg rs k).length i : Nat)) by rw [w64_id (by omega) (by omega)]; omega)) ?_
      refine wq_pure Tryz.hT rfl rfl rfl ?_
      refine wq_pure Tryz.hT rfl rfl rfl ?_
      refine wq_pure Tryz.hT rfl rfl rfl ?_
      refine wq_pure Tryz.hT rfl rfl rfl ?_
      refine wq_upd 53 (.int .i64 (i : Nat)) rfl (congrArg (Value.int .i64) (show w64 (n - (tot (rs.take k) : Nat)) = (i : Nat) by rw [w64_id (by omega) (by omega)]; omega)) ?_
      refine wq_pure Tryz.hT rfl rfl rfl ?_
      refine wq_upd 54 (.int .i64 ((i + 1 : Nat) : Int)) rfl (congrArg (Value.int .i64) (show w64 ((i : Nat) + 1) = ((i + 1 : Nat) : Int) by rw [w64_id (by omega) (by omega)]; omega)) ?_
      refine wq_pure Tryz.hT rfl rfl rfl ?_
      refine wq_rem rfl rfl rfl rfl rfl hL ?_
      refine wq_upd 56 (.int .i64 (nxt (rg rs k).length i : Nat)) rfl (congrArg (Value.int .i64) (show Int.tmod ((i + 1 : Nat) : Int) ((rg rs k).length : Nat) = (nxt (rg rs k).length i : Nat) from (Int.ofNat_tmod _ _).symm)) ?_
      refine wq_pure Tryz.hT rfl rfl rfl ?_
      refine wq_upd 57 (.int .i64 ((tot (rs.take k) + nxt (rg rs k).length i : Nat))) rfl (congrArg (Value.int .i64) (show w64 ((tot (rs.take k) : Nat) + (nxt (rg rs k).length i : Nat)) = ((tot (rs.take k) + nxt (rg rs k).length i : Nat)) by rw [w64_id (by omega) (by omega)]; omega)) ?_
      refine wq_pure Tryz.hT rfl rfl rfl ?_
      refine wq_pure Tryz.hT rfl rfl rfl ?_
      refine wq_pure Tryz.hT rfl rfl rfl ?_
      refine wq_nil ?_
      refine wl_nil ?_
      refine zE ?_
      refine zO ?_
      have e : nbrV rs n = .tuple #[.int .i64 ((tot (rs.take k) + prv (rg rs k).length i : Nat)), .int .i64 ((tot (rs.take k) + nxt (rg rs k).length i : Nat)), .int .i64 0] := by unfold nbrV; rw [hq]
      exact ne_ret3 Tryz.hT rfl (.tmp rfl) (.tmp rfl) (.tmp rfl) () e.symm trivial fun W _ => NewBx.nil _ _
    · have h' : (((tot (rs.take j) : Nat) : Int) == ((tot (rs.take k) : Nat) : Int)) = false := h2
      have hlt : j < k := by
        rcases Nat.lt_or_ge j k with hlt | hge
        · exact hlt
        · have e : j = k := by omega
          subst e; simp at h'
      refine zI ?_
      refine zE ?_
      refine zB ?_
      refine wl_pure Tryz.hT rfl rfl rfl ?_
      refine wl_pure Tryz.hT rfl rfl rfl ?_
      refine wl_pure Tryz.hT rfl rfl rfl ?_
      refine wl_pure Tryz.hT rfl rfl rfl ?_
      refine wl_pure Tryz.hT rfl rfl rfl ?_
      refine wl_nil ?_
      have hs : w64 ((tot (rs.take j) : Nat) + ((rg rs j).length : Nat)) = (tot (rs.take (j + 1)) : Nat) := by
        have h1 := tot_take_succ hjl
        have h2 := tot_take_le rs (j + 1)
        rw [w64_id (by omega) (by omega)]; omega
      refine zN ?_
      refine zE ?_
      refine zB ?_
      refine wl_upd 10 _ rfl (congrArg (Value.int .i64) hs) ?_
      refine wl_pure Tryz.hT rfl rfl rfl ?_
      refine wl_pure Tryz.hT rfl rfl rfl ?_
      refine wl_nil ?_
      exact ne_loop (j + 1) hlt (by omega) ⟨rfl, rfl, rfl, rfl, rfl, congrArg (fun z => some (Value.int .i64 z)) (wrap_id (x := (j : Int) + 1) (by omega) (by omega)), trivial⟩ [] rfl
theorem neigh_err (W : World) (p : Option Addr) (cap : Nat) (rs : List (List Sd)) (n : Int) (hn : rs.length < 4611686018427387904) (hT : tot rs < 1099511627776) (hR : RingsP W p rs) (hc : chk rs ≠ 0) :
    CallsR Tryz.prog 15 #[planV p rs.length cap, .int .i64 n] W (fun _ : Unit => .tuple #[.int .i64 0, .int .i64 0, .int .i64 1]) (fun _ => True) (fun _ => []) := by
  refine calls_enter (args := [planV p rs.length cap, .int .i64 n]) Tryz.func15 rfl rfl rfl ?_
  refine zA ?_
  refine zB ?_
  (refine wl_box rfl rfl rfl rfl ?_; intro)
  refine wl_pure Tryz.hT rfl rfl rfl ?_
  refine wl_pure Tryz.hT rfl rfl rfl ?_
  refine wl_pure Tryz.hT rfl rfl rfl ?_
  refine wl_nil ?_
  refine zE ?_
  refine zA ?_
  refine zB ?_
  refine wl_loadBx 0 Tryz.hT rfl rfl rfl rfl rfl rfl rfl rfl ?_
  refine wl_pure Tryz.hT rfl rfl rfl ?_
  refine wl_call1 rfl rfl rfl rfl rfl rfl (by kernel_rfl) (fun W hp => find_err W p cap rs n hn hT (hR.hp hp) hc) ?_
  refine wl_pure Tryz.hT rfl rfl rfl ?_
  refine wl_pure Tryz.hT rfl rfl rfl ?_
  refine wl_pure Tryz.hT rfl rfl rfl ?_
  refine wl_pure Tryz.hT rfl rfl rfl ?_
  (refine wl_allocZ Tryz.hZ rfl rfl rfl rfl ?_; intro)
  refine wl_pure Tryz.hT rfl rfl rfl ?_
  refine wl_storeBx 1 Tryz.hT rfl rfl rfl rfl rfl rfl rfl rfl rfl rfl rfl ?_
  refine wl_pure Tryz.hT rfl rfl rfl ?_
  refine wl_nil ?_
  refine zE ?_
  refine zA ?_
  refine zA ?_
  refine zB ?_
  refine wl_pure Tryz.hT rfl rfl rfl ?_
  refine wl_pure Tryz.hT rfl rfl rfl ?_
  refine wl_nil ?_
  refine zE ?_
  refine zR rfl ?_
  refine zA ?_
  refine zB ?_
  refine wl_pure Tryz.hT rfl rfl rfl ?_
  refine wl_pure Tryz.hT rfl rfl rfl ?_
  refine wl_pure Tryz.hT rfl rfl rfl ?_
  refine wl_pure Tryz.hT rfl rfl rfl ?_
  refine wl_nil ?_
  refine zE ?_
  refine zO ?_
  refine zP ?_
  exact ne_ret3 Tryz.hT rfl (.tmp rfl) (.tmp rfl) (.tmp rfl) () rfl trivial fun W _ => NewBx.nil _ _
end Go.Proofs.YtnpfkmbcejgnjaaGreatDoor
