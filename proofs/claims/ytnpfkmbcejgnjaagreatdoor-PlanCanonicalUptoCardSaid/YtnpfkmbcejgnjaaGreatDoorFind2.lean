/-
  The ring of a side and the side with its neighbours; neighbours; convex corners.
-/
import Derived.Test.YtnpfkmbcejgnjaaGreatDoorGreat
namespace Go.Proofs.YtnpfkmbcejgnjaaGreatDoor
open Go Go.RowKit Go.Am
set_option maxRecDepth 10000
-- BOXES 12
/-- The ring and the place of a side, if it is in the first k rings. -/
def locF (rs : List (List Sd)) (n : Int) : Nat → Option (Nat × Nat)
  | 0 => none
  | k + 1 => match locF rs n k with
    | some q => some q
    | none => if (tot (rs.take k) : Int) ≤ n ∧ n < tot (rs.take (k + 1)) then some (k, (n - tot (rs.take k)).toNat) else none
def loc (rs : List (List Sd)) (n : Int) : Option (Nat × Nat) := locF rs n rs.length
theorem locF_mono {rs : List (List Sd)} {n : Int} {q : Nat × Nat} : ∀ (m k : Nat), locF rs n k = some q → locF rs n (k + m) = some q
  | 0, k, h => h
  | m + 1, k, h => by
    show (match locF rs n (k + m) with | some q => some q | none => _) = some q
    rw [locF_mono m k h]
theorem loc_hit {rs : List (List Sd)} {n : Int} {k i : Nat} (hk : k < rs.length) (h0 : locF rs n k = none) (hi : i < (rg rs k).length) (e : (tot (rs.take k) : Int) + i = n) : loc rs n = some (k, i) := by
  have h1 : locF rs n (k + 1) = some (k, i) := by
    have h2 := tot_take_succ hk
    show (match locF rs n k with | some q => some q | none => _) = _
    rw [h0]
    show (if _ then _ else _) = _
    rw [if_pos ⟨by omega, by omega⟩]
    congr 2
    omega
  have := locF_mono (rs.length - (k + 1)) (k + 1) h1
  rwa [show k + 1 + (rs.length - (k + 1)) = rs.length by omega] at this
theorem locF_miss {rs : List (List Sd)} {n : Int} {k : Nat} (hk : k < rs.length) (h0 : locF rs n k = none) (hno : ∀ i, i < (rg rs k).length → (tot (rs.take k) : Int) + i ≠ n) : locF rs n (k + 1) = none := by
  have h2 := tot_take_succ hk
  show (match locF rs n k with | some q => some q | none => _) = _
  rw [h0]
  show (if _ then _ else _) = _
  rw [if_neg]
  rintro ⟨h3, h4⟩
  exact hno (n - tot (rs.take k)).toNat (by omega) (by omega)
abbrev around (l : List Sd) (i : Nat) : Value := arVal (sd l (prv l.length i)) (sd l i) (sd l (nxt l.length i))
def Sd.zero : Sd := ⟨0, 0, 0, 0, false, 0, 0⟩
/-- What find returns. -/
def fndV (rs : List (List Sd)) (n : Int) : Value := match loc rs n with
  | some (k, i) => .tuple #[.int .i64 (tot (rs.take k) : Nat), around (rg rs k) i, .int .i64 0]
  | none => .tuple #[.int .i64 0, arVal Sd.zero Sd.zero Sd.zero, .int .i64 2]
set_option maxHeartbeats 8000000 in
theorem find_ok (W : World) (p : Option Addr) (cap : Nat) (rs : List (List Sd)) (n : Int) (hn : rs.length < 4611686018427387904) (hR : RingsP W p rs) (hc : chk rs = 0) :
    CallsR Tryz.prog 48 #[planV p rs.length cap, .int .i64 n] W (fun _ : Unit => fndV rs n) (fun _ => True) (fun _ => []) := by
  obtain ⟨hne, hT, _⟩ := chk_ne hc
  have hl : ∀ l ∈ rs, l.length < 4611686018427387904 := fun l h => by have := len_le_tot h; omega
  refine calls_enter (args := [planV p rs.length cap, .int .i64 n]) Tryz.func48 rfl rfl rfl ?_
  refine zA ?_
  refine zB ?_
  (refine wl_box rfl rfl rfl rfl ?_; intro)
  (refine wl_box rfl rfl rfl rfl ?_; intro)
  (refine wl_allocZ Tryz.hZ rfl rfl rfl rfl ?_; intro)
  (refine wl_allocZ Tryz.hZ rfl rfl rfl rfl ?_; intro)
  (refine wl_allocZ Tryz.hZ rfl rfl rfl rfl ?_; intro)
  refine wl_nil ?_
  rename_i b2 b3 b4 b5 b6
  refine zE ?_
  refine zA ?_
  refine zA ?_
  refine zB ?_
  refine wl_loadBx 0 Tryz.hT rfl rfl rfl rfl rfl rfl rfl rfl ?_
  refine wl_call1 rfl rfl rfl rfl rfl rfl (by kernel_rfl) (fun W hp => (check_gives W p cap rs hn (by omega) (hR.hp hp)).cast (by rw [hc])) ?_
  refine wl_pure Tryz.hT rfl rfl rfl ?_
  refine wl_nil ?_
  refine zE ?_
  refine zS rfl ?_
  refine zI ?_
  refine zE ?_
  refine zA ?_
  refine zB ?_
  (refine wl_allocZ Tryz.hZ rfl rfl rfl rfl ?_; intro)
  rename_i b7
  refine wl_storeBx 5 Tryz.hT rfl rfl rfl rfl rfl rfl rfl rfl rfl rfl rfl ?_
  refine wl_nil ?_
  refine zE ?_
  refine zA ?_
  refine zA ?_
  refine zB ?_
  refine wl_pure Tryz.hT rfl rfl rfl ?_
  refine wl_loadBx 0 Tryz.hT rfl rfl rfl rfl rfl rfl rfl rfl ?_
  refine wl_pure Tryz.hT rfl rfl rfl ?_
  refine wl_pure Tryz.hT rfl rfl rfl ?_
  refine wl_nil ?_
  refine zE ?_
  refine zH ?_
  refine wc_newBag ?_
  refine wc_loopD (X := Nat × List Nat) (fun x => x.2.map dmark) (fun x => [(3, .pointer (some ⟨b3, 0, none⟩)), (4, .pointer (some ⟨b4, 0, none⟩)), (5, .pointer (some ⟨b5, 0, none⟩)), (6, .pointer (some ⟨b6, 0, none⟩)), (7, .pointer (some ⟨b7, 0, none⟩)), (17, slv p rs.length cap), (18, .int .i64 (rs.length : Nat)), (19, .int .i64 (x.1 : Nat))])
    (fun x => [⟨b2, 24, [slv p rs.length cap], true, none⟩, ⟨b3, 3, [.int .i64 n], true, none⟩, ⟨b4, 3, [.int .i64 0], true, none⟩, ⟨b5, 72, (arVal Sd.zero Sd.zero Sd.zero).cells.toList, true, none⟩, ⟨b6, 28, [.int .i64 0], true, none⟩, ⟨b7, 3, [.int .i64 (tot (rs.take x.1) : Nat)], true, none⟩, bag x.2])
    (fun x => x.1 ≤ rs.length ∧ locF rs n x.1 = none) (fun x => rs.length - x.1) (0, []) ⟨Nat.zero_le _, rfl⟩ rfl ⟨rfl, rfl, rfl, rfl, rfl, rfl, rfl, rfl, trivial⟩ [] rfl ?_
  rintro ⟨k, ds⟩ ⟨hk0, hloc0⟩
  have hk : k ≤ rs.length := hk0
  have hloc : locF rs n k = none := hloc0
  clear hk0 hloc0
  refine zA ?_
  refine zB ?_
  refine wl_pure Tryz.hT rfl rfl rfl ?_
  refine wl_nil ?_
  refine zE ?_
  refine zA ?_
  refine wc_cond rfl (fun h => ?_) (fun h => ?_)
  rotate_left
  · have e : k = rs.length := by simp at h; omega
    subst e
    refine zJ ?_
    refine zK ?_
    refine zK ?_
    refine zL ?_
    refine zE ?_
    refine zA ?_
    refine zB ?_
    refine wl_buildZ Tryz.hZ Tryz.hT rfl rfl rfl rfl rfl rfl rfl rfl ?_
    refine wl_storeBx 2 Tryz.hT rfl rfl rfl rfl rfl rfl rfl rfl rfl rfl rfl ?_
    refine wl_storeBx 3 Tryz.hT rfl rfl rfl rfl rfl rfl rfl rfl rfl rfl rfl ?_
    refine wl_storeBx 4 Tryz.hT rfl rfl rfl rfl rfl rfl rfl rfl rfl rfl rfl ?_
    refine wl_nil ?_
    refine zE ?_
    refine zO ?_
    refine ne_marks 6 ds rfl ?_
    have e : fndV rs n = .tuple #[.int .i64 0, arVal Sd.zero Sd.zero Sd.zero, .int .i64 2] := by
      unfold fndV; rw [show loc rs n = none from hloc]
    exact ne_ret3 Tryz.hT rfl (.cell 2 rfl rfl rfl rfl rfl) (.cell 3 rfl rfl rfl rfl rfl) (.cell 4 rfl rfl rfl rfl rfl) () (by rw [e]; rfl) trivial fun W _ => NewBx.nil _ _
  have hk : k < rs.length := by simp at h; omega
  clear h
  obtain ⟨b', off, rfl, hrow⟩ := hR.row hk
  obtain ⟨q, cap2, hq1, hq2⟩ := hrow k hk
  have hlk : (rg rs k).length < 4611686018427387904 := hl _ (List.mem_of_getElem? (rg_get hk))
  have hts := tot_take_succ hk
  have htl := tot_take_le rs (k + 1)
  refine zI ?_
  refine zE ?_
  refine zA ?_
  refine zH ?_
  refine zA ?_
  refine zB ?_
  refine wl_indexAddr Tryz.hT rfl rfl rfl rfl rfl rfl rfl (by omega) (by omega) ?_
  refine wl_load rfl rfl rfl rfl (fun W hp => RowAt.load 0 Tryz.hT rfl ((fun W hp => hq1.hp hp) W hp) rfl) ?_
  refine wl_pure Tryz.hT rfl rfl rfl ?_
  refine wl_nil ?_
  refine zE ?_
  refine zA ?_
  refine zA ?_
  refine zB ?_
  refine wl_pure Tryz.hT rfl rfl rfl ?_
  refine wl_call (X := Nat) rfl rfl rfl rfl rfl rfl (by kernel_rfl) (fun W _ => sides_gives q (rg rs k).length cap2 W) ?_
  intro b _
  refine wl_nil ?_
  refine zE ?_
  refine zH ?_
  refine wc_range (X := Nat × Bool) (fun x => [⟨b2, 24, [slv (some ⟨b', off, none⟩) rs.length cap], true, none⟩, ⟨b3, 3, [.int .i64 n], true, none⟩, ⟨b4, 3, [.int .i64 (if x.2 then (tot (rs.take k) : Nat) else 0)], true, none⟩, ⟨b5, 72, (if x.2 then (around (rg rs k) x.1).cells.toList else (arVal Sd.zero Sd.zero Sd.zero).cells.toList), true, none⟩, ⟨b6, 28, [.int .i64 0], true, none⟩, ⟨b7, 3, [.int .i64 (tot (rs.take k) : Nat)], true, none⟩, bag ds, ⟨b, 27, [slv q (rg rs k).length cap2], true, none⟩])
    (fun j x => x = (j, false) ∧ ∀ i, i < j → (tot (rs.take k) : Int) + i ≠ n) (fun c x => c = .ret ∧ x.2 = true ∧ loc rs n = some (k, x.1)) (0, false) rfl (by kernel_rfl) (sides_iter b q cap2 (rg rs k) hlk) (fun _ => rfl)
    ⟨rfl, fun i hi => absurd hi (Nat.not_lt_zero _)⟩ [] rfl (fun j x W _ hp => SidesNeed.mk' hq2 hp 7 rfl) ?_ ?_ ?_
  · rintro j x d L rec hj ⟨rfl, hno⟩ hrec
    refine zA ?_
    refine zB ?_
    refine wl_pure Tryz.hT rfl rfl rfl ?_
    refine wl_nil ?_
    refine zE ?_
    refine zB ?_
    (refine wl_allocZ Tryz.hZ rfl rfl rfl rfl ?_; intro)
    refine wl_storeBx 10 Tryz.hT rfl rfl rfl rfl rfl rfl rfl rfl rfl rfl rfl ?_
    refine wl_nil ?_
    rename_i b11
    refine ne_begin 9 hrec rfl ?_
    refine zH ?_
    refine zA ?_
    refine zB ?_
    refine wl_loadBx 5 Tryz.hT rfl rfl rfl rfl rfl rfl rfl rfl ?_
    refine wl_pure Tryz.hT rfl rfl rfl ?_
    refine wl_pure Tryz.hT rfl rfl rfl ?_
    refine wl_loadBx 1 Tryz.hT rfl rfl rfl rfl rfl rfl rfl rfl ?_
    refine wl_pure Tryz.hT rfl rfl rfl ?_
    refine wl_nil ?_
    have es : w64 ((tot (rs.take k) : Nat) + (j : Nat)) = (tot (rs.take k) : Int) + j := w64_id (by omega) (by omega)
    refine zE ?_
    refine wc_cond rfl (fun h => ?_) (fun h => ?_)
    · have hh : loc rs n = some (k, j) := loc_hit hk hloc hj (by
        have h' : (w64 ((tot (rs.take k) : Nat) + (j : Nat)) == n) = true := h
        rw [es, beq_iff_eq] at h'; exact h')
      refine wc_seq ?_
      refine wc_lateX (X := Unit) (fun _ => []) (fun x => [⟨b2, 24, [slv (some ⟨b', off, none⟩) rs.length cap], true, none⟩, ⟨b3, 3, [.int .i64 n], true, none⟩, ⟨b4, 3, [.int .i64 (tot (rs.take k) : Nat)], true, none⟩, ⟨b5, 72, (around (rg rs k) j).cells.toList, true, none⟩, ⟨b6, 28, [.int .i64 0], true, none⟩, ⟨b7, 3, [.int .i64 (tot (rs.take k) : Nat)], true, none⟩, bag ds, ⟨b, 27, [slv q (rg rs k).length cap2], true, none⟩, rawD d, rawL L rec .busy none])
        3 [gone, gone, gone, gone, gone, ⟨b7, 3, [.int .i64 (tot (rs.take k) : Nat)], true, none⟩, gone, gone, gone, gone, ⟨b11, 72, (around (rg rs k) j).cells.toList, true, none⟩] Tryz.mixed (by kernel_rfl) ?_ ?_
      · refine wq_loadBx 5 Tryz.hT rfl rfl rfl rfl rfl rfl rfl rfl ?_
        refine wq_loadBx 10 Tryz.hT rfl rfl rfl rfl rfl rfl rfl rfl ?_
        refine wq_wt ?_
        refine wt_step rfl rfl (by ((repeat (first | refine Weak.same ?_ | refine Weak.off rfl ?_)); exact trivial)) ?_
        refine RS.cons ?_ (RS.nil)
        refine wl_storeBx 2 Tryz.hT rfl rfl rfl rfl rfl rfl rfl rfl rfl rfl rfl ?_
        refine wl_nil ?_
        refine ne_wt ?_
        refine wt_step rfl rfl (by ((repeat (first | refine Weak.same ?_ | refine Weak.off rfl ?_)); exact trivial)) ?_
        refine RS.cons ?_ (RS.nil)
        refine wl_storeBx 3 Tryz.hT rfl rfl rfl rfl rfl rfl rfl rfl rfl rfl rfl ?_
        refine wl_nil ?_
        refine ne_wt ?_
        refine wt_step rfl rfl (by ((repeat (first | refine Weak.same ?_ | refine Weak.off rfl ?_)); exact trivial)) ?_
        refine RS.cons ?_ (RS.nil)
        refine wl_storeBx 4 Tryz.hT rfl rfl rfl rfl rfl rfl rfl rfl rfl rfl rfl ?_
        refine wl_nil ?_
        refine ne_wt ?_
        refine wt_done rfl (by ((repeat (first | refine Weak.same ?_ | refine Weak.off rfl ?_)); exact trivial)) ?_
        exact ne_late () trivial [0, 1, 2, 3, 4, 5, 6, 7, 8, 9] (by decide) rfl
      · intro _
        refine zE ?_
        refine zO ?_
        refine zQ ?_
        exact ne_round_ret 9 (j, true) hrec rfl ⟨rfl, rfl, hh⟩ [] rfl
    · refine zI ?_
      refine zN ?_
      refine ne_round 9 (j + 1, false) hrec rfl ⟨rfl, fun i hi => ?_⟩ [_] rfl
      by_cases e : i = j
      · subst e
        have h' : (w64 ((tot (rs.take k) : Nat) + (i : Nat)) == n) = false := h
        rw [es, beq_eq_false_iff_ne] at h'; exact h'
      · exact hno i (by omega)
  · rintro x d L rec ⟨rfl, hno⟩
    refine zN ?_
    refine zE ?_
    refine zB ?_
    refine wl_loadBx 5 Tryz.hT rfl rfl rfl rfl rfl rfl rfl rfl ?_
    refine wl_pure Tryz.hT rfl rfl rfl ?_
    refine wl_pure Tryz.hT rfl rfl rfl ?_
    refine wl_pure Tryz.hT rfl rfl rfl ?_
    refine wl_storeBx 5 Tryz.hT rfl rfl rfl rfl rfl rfl rfl rfl rfl rfl rfl ?_
    refine wl_nil ?_
    have es : w64 ((tot (rs.take k) : Nat) + ((rg rs k).length : Nat)) = (tot (rs.take (k + 1)) : Nat) := by rw [w64_id (by omega) (by omega)]; omega
    refine zN ?_
    refine zE ?_
    refine zB ?_
    refine wl_pure Tryz.hT rfl rfl rfl ?_
    refine wl_pure Tryz.hT rfl rfl rfl ?_
    refine wl_nil ?_
    refine ne_bag 6 8 rfl rfl ?_
    refine ne_loopD (X := Nat × List Nat) (k + 1, d :: ds) ⟨hk, locF_miss hk hloc hno⟩ (by show rs.length - (k + 1) < rs.length - k; omega) rfl ⟨rfl, rfl, rfl, rfl, rfl, rfl, rfl, congrArg (fun z => some (Value.int .i64 z)) (wrap_id (x := (k : Int) + 1) (by omega) (by omega)), trivial⟩ [0, 1, 2, 3, 4, 5, 6] (by decide) ?_
    rw [← es]; rfl
  · rintro ⟨j, x2⟩ d L rec c ⟨rfl, e2, hh⟩
    obtain rfl : x2 = true := e2
    refine zO ?_
    refine zQ ?_
    refine zP ?_
    refine zQ ?_
    refine zP ?_
    refine zP ?_
    refine zQ ?_
    refine zP ?_
    refine ne_bag 6 8 rfl rfl ?_
    refine ne_marks 6 (d :: ds) rfl ?_
    have e : fndV rs n = .tuple #[.int .i64 (tot (rs.take k) : Nat), around (rg rs k) j, .int .i64 0] := by
      unfold fndV; rw [hh]
    exact ne_ret3 Tryz.hT rfl (.cell 2 rfl rfl rfl rfl rfl) (.cell 3 rfl rfl rfl rfl rfl) (.cell 4 rfl rfl rfl rfl rfl) () (by rw [e]; rfl) trivial fun W _ => NewBx.nil _ _
theorem find_err (W : World) (p : Option Addr) (cap : Nat) (rs : List (List Sd)) (n : Int) (hn : rs.length < 4611686018427387904) (hT : tot rs < 1099511627776) (hR : RingsP W p rs) (hc : chk rs ≠ 0) :
    CallsR Tryz.prog 48 #[planV p rs.length cap, .int .i64 n] W (fun _ : Unit => .tuple #[.int .i64 0, arVal Sd.zero Sd.zero Sd.zero, .int .i64 1]) (fun _ => True) (fun _ => []) := by
  refine calls_enter (args := [planV p rs.length cap, .int .i64 n]) Tryz.func48 rfl rfl rfl ?_
  refine zA ?_
  refine zB ?_
  (refine wl_box rfl rfl rfl rfl ?_; intro)
  (refine wl_box rfl rfl rfl rfl ?_; intro)
  (refine wl_allocZ Tryz.hZ rfl rfl rfl rfl ?_; intro)
  (refine wl_allocZ Tryz.hZ rfl rfl rfl rfl ?_; intro)
  (refine wl_allocZ Tryz.hZ rfl rfl rfl rfl ?_; intro)
  refine wl_nil ?_
  refine zE ?_
  refine zA ?_
  refine zA ?_
  refine zB ?_
  refine wl_loadBx 0 Tryz.hT rfl rfl rfl rfl rfl rfl rfl rfl ?_
  refine wl_call1 rfl rfl rfl rfl rfl rfl (by kernel_rfl) (fun W hp => check_gives W p cap rs hn hT (hR.hp hp)) ?_
  refine wl_pure Tryz.hT rfl rfl rfl ?_
  refine wl_nil ?_
  refine zE ?_
  refine wc_cond rfl (fun h => ?_) (fun h => ?_)
  · refine zA ?_
    refine zB ?_
    refine wl_buildZ Tryz.hZ Tryz.hT rfl rfl rfl rfl rfl rfl rfl rfl ?_
    refine wl_storeBx 2 Tryz.hT rfl rfl rfl rfl rfl rfl rfl rfl rfl rfl rfl ?_
    refine wl_storeBx 3 Tryz.hT rfl rfl rfl rfl rfl rfl rfl rfl rfl rfl rfl ?_
    refine wl_storeBx 4 Tryz.hT rfl rfl rfl rfl rfl rfl rfl rfl rfl rfl rfl ?_
    refine wl_nil ?_
    refine zE ?_
    refine zO ?_
    refine zP ?_
    exact ne_ret3 Tryz.hT rfl (.cell 2 rfl rfl rfl rfl rfl) (.cell 3 rfl rfl rfl rfl rfl) (.cell 4 rfl rfl rfl rfl rfl) () rfl trivial fun W _ => NewBx.nil _ _
  · exact absurd (by have h' : (chk rs != 0) = false := h; simpa using h') hc
/-- Does a plan turn left at a side's corner. -/
def lefq (rs : List (List Sd)) (q : Nat × Nat) : Bool := leftB (sd (rg rs q.1) (prv (rg rs q.1).length q.2)) (sd (rg rs q.1) q.2) (sd (rg rs q.1) (nxt (rg rs q.1).length q.2))
def cvxV (rs : List (List Sd)) (n : Int) : Value := match loc rs n with
  | some q => .tuple #[.bool (lefq rs q), .int .i64 0]
  | none => .tuple #[.bool false, .int .i64 2]
theorem convex_ok (W : World) (p : Option Addr) (cap : Nat) (rs : List (List Sd)) (n : Int) (hn : rs.length < 4611686018427387904) (hR : RingsP W p rs) (hc : chk rs = 0) :
    CallsR Tryz.prog 14 #[planV p rs.length cap, .int .i64 n] W (fun _ : Unit => cvxV rs n) (fun _ => True) (fun _ => []) := by
  refine calls_enter (args := [planV p rs.length cap, .int .i64 n]) Tryz.func14 rfl rfl rfl ?_
  refine zA ?_
  refine zB ?_
  (refine wl_box rfl rfl rfl rfl ?_; intro)
  refine wl_pure Tryz.hT rfl rfl rfl ?_
  refine wl_pure Tryz.hT rfl rfl rfl ?_
  refine wl_nil ?_
  refine zE ?_
  refine zA ?_
  refine zB ?_
  refine wl_loadBx 0 Tryz.hT rfl rfl rfl rfl rfl rfl rfl rfl ?_
  refine wl_pure Tryz.hT rfl rfl rfl ?_
  cases hq : loc rs n with
  | none =>
    refine wl_call1 rfl rfl rfl rfl rfl rfl (by kernel_rfl) (fun W hp => (find_ok W p cap rs n hn (hR.hp hp) hc).cast (by rw [fndV, hq])) ?_
    refine wl_pure Tryz.hT rfl rfl rfl ?_
    refine wl_pure Tryz.hT rfl rfl rfl ?_
    refine wl_pure Tryz.hT rfl rfl rfl ?_
    refine wl_pure Tryz.hT rfl rfl rfl ?_
    (refine wl_allocZ Tryz.hZ rfl rfl rfl rfl ?_; intro)
    refine wl_pure Tryz.hT rfl rfl rfl ?_
    refine wl_storeBx 1 Tryz.hT rfl rfl rfl rfl rfl rfl rfl rfl rfl rfl rfl ?_
    refine wl_pure Tryz.hT rfl rfl rfl ?_
    refine wl_nil ?_
    refine zE ?_
    refine zA ?_
    refine zB ?_
    refine wl_pure Tryz.hT rfl rfl rfl ?_
    refine wl_pure Tryz.hT rfl rfl rfl ?_
    refine wl_pure Tryz.hT rfl rfl rfl ?_
    refine wl_skip rfl rfl ?_
    refine wl_skip rfl rfl ?_
    refine wl_pure Tryz.hT rfl rfl rfl ?_
    refine wl_pure Tryz.hT rfl rfl rfl ?_
    refine wl_pure Tryz.hT rfl rfl rfl ?_
    refine wl_pure Tryz.hT rfl rfl rfl ?_
    refine wl_nil ?_
    refine zE ?_
    refine zO ?_
    have e : cvxV rs n = .tuple #[.bool false, .int .i64 2] := by unfold cvxV; rw [hq]
    exact ne_ret2 Tryz.hT rfl (.tmp rfl) (.tmp rfl) () e.symm trivial fun W _ => NewBx.nil _ _
  | some q =>
    obtain ⟨k, i⟩ := q
    refine wl_call1 rfl rfl rfl rfl rfl rfl (by kernel_rfl) (fun W hp => (find_ok W p cap rs n hn (hR.hp hp) hc).cast (by rw [fndV, hq])) ?_
    refine wl_pure Tryz.hT rfl rfl rfl ?_
    refine wl_pure Tryz.hT rfl rfl rfl ?_
    refine wl_pure Tryz.hT rfl rfl rfl ?_
    refine wl_pure Tryz.hT rfl rfl rfl ?_
    (refine wl_allocZ Tryz.hZ rfl rfl rfl rfl ?_; intro)
    refine wl_pure Tryz.hT rfl rfl rfl ?_
    refine wl_storeBx 1 Tryz.hT rfl rfl rfl rfl rfl rfl rfl rfl rfl rfl rfl ?_
    refine wl_pure Tryz.hT rfl rfl rfl ?_
    refine wl_nil ?_
    refine zE ?_
    refine zA ?_
    refine zB ?_
    refine wl_pure Tryz.hT rfl rfl rfl ?_
    refine wl_pure Tryz.hT rfl rfl rfl ?_
    refine wl_pure Tryz.hT rfl rfl rfl ?_
    refine wl_loadBx 1 Tryz.hT rfl rfl rfl rfl rfl rfl rfl rfl ?_
    refine wl_call1 rfl rfl rfl rfl rfl rfl (by kernel_rfl) (fun W _ => left_gives (sd (rg rs k) (prv (rg rs k).length i)) (sd (rg rs k) i) (sd (rg rs k) (nxt (rg rs k).length i)) W) ?_
    refine wl_pure Tryz.hT rfl rfl rfl ?_
    refine wl_pure Tryz.hT rfl rfl rfl ?_
    refine wl_pure Tryz.hT rfl rfl rfl ?_
    refine wl_pure Tryz.hT rfl rfl rfl ?_
    refine wl_nil ?_
    refine zE ?_
    refine zO ?_
    have e : cvxV rs n = .tuple #[.bool (lefq rs (k, i)), .int .i64 0] := by unfold cvxV; rw [hq]
    exact ne_ret2 Tryz.hT rfl (.tmp rfl) (.tmp rfl) () e.symm trivial fun W _ => NewBx.nil _ _
theorem convex_err (W : World) (p : Option Addr) (cap : Nat) (rs : List (List Sd)) (n : Int) (hn : rs.length < 4611686018427387904) (hT : tot rs < 1099511627776) (hR : RingsP W p rs) (hc : chk rs ≠ 0) :
    CallsR Tryz.prog 14 #[planV p rs.length cap, .int .i64 n] W (fun _ : Unit => .tuple #[.bool false, .int .i64 1]) (fun _ => True) (fun _ => []) := by
  refine calls_enter (args := [planV p rs.length cap, .int .i64 n]) Tryz.func14 rfl rfl rfl ?_
  refine zA ?_
  refine zB ?_
  (refine wl_box rfl rfl rfl rfl ?_; intro)
  refine wl_pure Tryz.hT rfl rfl rfl ?_
  refine wl_pure Tryz.hT rfl rfl rfl ?_
  refine wl_nil ?_
  refine zE ?_
  refine zA ?_
  refine zB ?_
  refine wl_loadBx 0 Tryz.hT rfl rfl rfl rfl rfl rfl rfl rfl ?_
  refine wl_pure Tryz.hT rfl rfl rfl ?_
  refine wl_call1 rfl rfl rfl rfl rfl rfl (by kernel_rfl) (fun W hp => find_err W p cap rs n hn hT (hR.hp hp) hc) ?_
  refine wl_pure Tryz.hT rfl rfl rfl ?_
  refine wl_pure Tryz.hT rfl rfl rfl ?_
  refine wl_pure Tryz.hT rfl rfl rfl ?_
  refine wl_pure Tryz.hT rfl rfl rfl ?_
  (refine wl_allocZ Tryz.hZ rfl rfl rfl rfl ?_; intro)
  refine wl_pure Tryz.hT rfl rfl rfl ?_
  refine wl_storeBx 1 Tryz.hT rfl rfl rfl rfl rfl rfl rfl rfl rfl rfl rfl ?_
  refine wl_pure Tryz.hT rfl rfl rfl ?_
  refine wl_nil ?_
  refine zE ?_
  refine zA ?_
  refine zB ?_
  refine wl_pure Tryz.hT rfl rfl rfl ?_
  refine wl_pure Tryz.hT rfl rfl rfl ?_
  refine wl_pure Tryz.hT rfl rfl rfl ?_
  refine wl_skip rfl rfl ?_
  refine wl_skip rfl rfl ?_
  refine wl_pure Tryz.hT rfl rfl rfl ?_
  refine wl_pure Tryz.hT rfl rfl rfl ?_
  refine wl_pure Tryz.hT rfl rfl rfl ?_
  refine wl_pure Tryz.hT rfl rfl rfl ?_
  refine wl_nil ?_
  refine zE ?_
  refine zO ?_
  exact ne_ret2 Tryz.hT rfl (.tmp rfl) (.tmp rfl) () rfl trivial fun W _ => NewBx.nil _ _
end Go.Proofs.YtnpfkmbcejgnjaaGreatDoor
