/-
  The reference's small functions: ends, directions, turns, areas of rings; ranges of sides.
-/
import Derived.Test.YtnpfkmbcejgnjaaGreatDoorEven
namespace Go.Proofs.YtnpfkmbcejgnjaaGreatDoor
open Go Go.RowKit Go.Am
set_option maxRecDepth 10000
-- BOXES 1
def sgI (a : Int) : Int := if a < 0 then -1 else if a > 0 then 1 else 0
theorem sign_gives (a : Int) : Gives Tryz.prog 152 [.int .i64 a] (.int .i64 (sgI a)) := by
  intro W
  refine calls_enter Tryz.func152 rfl rfl rfl ?_
  refine zA ?_
  refine zB ?_
  refine wl_pure Tryz.hT rfl rfl rfl ?_
  refine wl_nil ?_
  refine zE ?_
  refine zA ?_
  refine zA ?_
  refine zB ?_
  refine wl_pure Tryz.hT rfl rfl rfl ?_
  refine wl_pure Tryz.hT rfl rfl rfl ?_
  refine wl_nil ?_
  refine zE ?_
  refine wc_cond rfl (fun h => ?_) (fun h => ?_)
  · refine zA ?_
    refine zB ?_
    refine wl_pure Tryz.hT rfl rfl rfl ?_
    refine wl_nil ?_
    refine zE ?_
    refine zO ?_
    refine zP ?_
    have h' : a < 0 := by simpa using h
    exact ne_ret1 Tryz.hT rfl (.tmp rfl) () (by unfold sgI; rw [if_pos h']) trivial fun W _ => NewBx.nil _ _
  have h1 : ¬ a < 0 := by simpa using h
  refine zI ?_
  refine zE ?_
  refine zA ?_
  refine zA ?_
  refine zB ?_
  refine wl_pure Tryz.hT rfl rfl rfl ?_
  refine wl_pure Tryz.hT rfl rfl rfl ?_
  refine wl_nil ?_
  refine zE ?_
  refine wc_cond rfl (fun h2 => ?_) (fun h2 => ?_)
  · refine zA ?_
    refine zB ?_
    refine wl_pure Tryz.hT rfl rfl rfl ?_
    refine wl_nil ?_
    refine zE ?_
    refine zO ?_
    refine zP ?_
    have h' : a > 0 := by simpa using h2
    exact ne_ret1 Tryz.hT rfl (.tmp rfl) () (by unfold sgI; rw [if_neg h1, if_pos h']) trivial fun W _ => NewBx.nil _ _
  have h3 : ¬ a > 0 := by simpa using h2
  refine zI ?_
  refine zE ?_
  refine zA ?_
  refine zB ?_
  refine wl_pure Tryz.hT rfl rfl rfl ?_
  refine wl_nil ?_
  refine zE ?_
  refine zO ?_
  exact ne_ret1 Tryz.hT rfl (.tmp rfl) () (by unfold sgI; rw [if_neg h1, if_neg h3]) trivial fun W _ => NewBx.nil _ _
def outB (n a b : Int) : Bool := decide (n < a) || decide (n > b)
theorem outB_btw (n a b : Int) : outB n a b = !btw n a b := by
  unfold outB btw
  rw [Bool.eq_iff_iff]
  simp only [Bool.or_eq_true, Bool.not_eq_true', Bool.and_eq_false_iff, decide_eq_true_eq, decide_eq_false_iff_not]
  omega
theorem outside_gives (n a b : Int) : Gives Tryz.prog 99 [.int .i64 n, .int .i64 a, .int .i64 b] (.bool (outB n a b)) := by
  intro W
  refine calls_enter Tryz.func99 rfl rfl rfl ?_
  refine zA ?_
  refine zB ?_
  refine wl_pure Tryz.hT rfl rfl rfl ?_
  refine wl_nil ?_
  refine zE ?_
  refine zA ?_
  refine zB ?_
  refine wl_pure Tryz.hT rfl rfl rfl ?_
  refine wl_pure Tryz.hT rfl rfl rfl ?_
  refine wl_pure Tryz.hT rfl rfl rfl ?_
  refine wl_pure Tryz.hT rfl rfl rfl ?_
  refine wl_part 10 rfl (fun h10 => ?_) (fun h10 => ?_)
  · refine wl_skip rfl rfl ?_
    refine wl_skip rfl rfl ?_
    refine wl_skip rfl rfl ?_
    refine wl_pure Tryz.hT rfl rfl rfl ?_
    refine wl_pure Tryz.hT rfl rfl rfl ?_
    refine wl_nil ?_
    refine zE ?_
    refine zO ?_
    exact ne_ret1 Tryz.hT rfl (.tmp rfl) () (by simp_all [outB] <;> (intros; omega)) trivial fun W _ => NewBx.nil _ _
  · refine wl_pure Tryz.hT rfl rfl rfl ?_
    refine wl_pure Tryz.hT rfl rfl rfl ?_
    refine wl_pure Tryz.hT rfl rfl rfl ?_
    refine wl_pure Tryz.hT rfl rfl rfl ?_
    refine wl_pure Tryz.hT rfl rfl rfl ?_
    refine wl_nil ?_
    refine zE ?_
    refine zO ?_
    exact ne_ret1 Tryz.hT rfl (.tmp rfl) () (by simp_all [outB] <;> (intros; omega)) trivial fun W _ => NewBx.nil _ _
theorem rangedR_gives (s : Sd) : Gives Tryz.prog 64 [s.val] (.bool (rgd s)) := by
  intro W
  refine calls_enter Tryz.func64 rfl rfl rfl ?_
  refine zA ?_
  refine zB ?_
  (refine wl_box rfl rfl rfl rfl ?_; intro)
  refine wl_pure Tryz.hT rfl rfl rfl ?_
  refine wl_nil ?_
  rename_i b1
  have no : (outB s.x 0 65536 || outB s.y 0 65536 || outB s.plate 0 65536 || outB s.over 0 65536) = true → rgd s = false := fun h => by
    simp only [outB_btw] at h
    unfold rgd
    rw [show (btw s.x 0 65536 && btw s.y 0 65536 && btw s.plate 0 65536 && btw s.over 0 65536) = false by
      rw [Bool.eq_false_iff]; intro h2; simp_all, Bool.and_false]
  have yes : outB s.x 0 65536 = false → outB s.y 0 65536 = false → outB s.plate 0 65536 = false → outB s.over 0 65536 = false → rgd s = (if s.gable then s.rise == 0 && s.run == 0 else btw s.rise 1 48 && btw s.run 1 48) := fun h1 h2 h3 h4 => by
    rw [outB_btw, Bool.not_eq_false'] at h1 h2 h3 h4
    unfold rgd
    rw [h1, h2, h3, h4]; simp
  refine zE ?_
  refine zA ?_
  refine zA ?_
  refine zB ?_
  refine wl_pure Tryz.hT rfl rfl rfl ?_
  refine wl_loadBx 0 Tryz.hT rfl rfl rfl rfl rfl rfl rfl rfl ?_
  refine wl_call1 rfl rfl rfl rfl rfl rfl (by kernel_rfl) (fun W _ => (outside_gives ..)) ?_
  refine wl_pure Tryz.hT rfl rfl rfl ?_
  refine wl_part 6 rfl (fun h6 => ?_) (fun h6 => ?_)
  · refine wl_skip rfl rfl ?_
    refine wl_skip rfl rfl ?_
    refine wl_skip rfl rfl ?_
    refine wl_pure Tryz.hT rfl rfl rfl ?_
    refine wl_pure Tryz.hT rfl rfl rfl ?_
    refine wl_skip rfl rfl ?_
    refine wl_skip rfl rfl ?_
    refine wl_skip rfl rfl ?_
    refine wl_pure Tryz.hT rfl rfl rfl ?_
    refine wl_pure Tryz.hT rfl rfl rfl ?_
    refine wl_skip rfl rfl ?_
    refine wl_skip rfl rfl ?_
    refine wl_skip rfl rfl ?_
    refine wl_pure Tryz.hT rfl rfl rfl ?_
    refine wl_nil ?_
    refine zE ?_
    refine zR rfl ?_
    refine zA ?_
    refine zB ?_
    refine wl_pure Tryz.hT rfl rfl rfl ?_
    refine wl_nil ?_
    refine zE ?_
    refine zO ?_
    refine zP ?_
    exact ne_ret1 Tryz.hT rfl (.tmp rfl) () (by rw [no (by simp_all)]) trivial fun W _ => NewBx.nil _ _
  · refine wl_pure Tryz.hT rfl rfl rfl ?_
    refine wl_loadBx 0 Tryz.hT rfl rfl rfl rfl rfl rfl rfl rfl ?_
    refine wl_call1 rfl rfl rfl rfl rfl rfl (by kernel_rfl) (fun W _ => (outside_gives ..)) ?_
    refine wl_pure Tryz.hT rfl rfl rfl ?_
    refine wl_pure Tryz.hT rfl rfl rfl ?_
    refine wl_part 11 rfl (fun h11 => ?_) (fun h11 => ?_)
    · refine wl_skip rfl rfl ?_
      refine wl_skip rfl rfl ?_
      refine wl_skip rfl rfl ?_
      refine wl_pure Tryz.hT rfl rfl rfl ?_
      refine wl_pure Tryz.hT rfl rfl rfl ?_
      refine wl_skip rfl rfl ?_
      refine wl_skip rfl rfl ?_
      refine wl_skip rfl rfl ?_
      refine wl_pure Tryz.hT rfl rfl rfl ?_
      refine wl_nil ?_
      refine zE ?_
      refine zR rfl ?_
      refine zA ?_
      refine zB ?_
      refine wl_pure Tryz.hT rfl rfl rfl ?_
      refine wl_nil ?_
      refine zE ?_
      refine zO ?_
      refine zP ?_
      exact ne_ret1 Tryz.hT rfl (.tmp rfl) () (by rw [no (by simp_all)]) trivial fun W _ => NewBx.nil _ _
    · refine wl_pure Tryz.hT rfl rfl rfl ?_
      refine wl_loadBx 0 Tryz.hT rfl rfl rfl rfl rfl rfl rfl rfl ?_
      refine wl_call1 rfl rfl rfl rfl rfl rfl (by kernel_rfl) (fun W _ => (outside_gives ..)) ?_
      refine wl_pure Tryz.hT rfl rfl rfl ?_
      refine wl_pure Tryz.hT rfl rfl rfl ?_
      refine wl_part 16 rfl (fun h16 => ?_) (fun h16 => ?_)
      · refine wl_skip rfl rfl ?_
        refine wl_skip rfl rfl ?_
        refine wl_skip rfl rfl ?_
        refine wl_pure Tryz.hT rfl rfl rfl ?_
        refine wl_nil ?_
        refine zE ?_
        refine zR rfl ?_
        refine zA ?_
        refine zB ?_
        refine wl_pure Tryz.hT rfl rfl rfl ?_
        refine wl_nil ?_
        refine zE ?_
        refine zO ?_
        refine zP ?_
        exact ne_ret1 Tryz.hT rfl (.tmp rfl) () (by rw [no (by simp_all)]) trivial fun W _ => NewBx.nil _ _
      · refine wl_pure Tryz.hT rfl rfl rfl ?_
        refine wl_loadBx 0 Tryz.hT rfl rfl rfl rfl rfl rfl rfl rfl ?_
        refine wl_call1 rfl rfl rfl rfl rfl rfl (by kernel_rfl) (fun W _ => (outside_gives ..)) ?_
        refine wl_pure Tryz.hT rfl rfl rfl ?_
        refine wl_nil ?_
        refine zE ?_
        refine wc_cond rfl (fun h => ?_) (fun h => ?_)
        · refine zA ?_
          refine zB ?_
          refine wl_pure Tryz.hT rfl rfl rfl ?_
          refine wl_nil ?_
          refine zE ?_
          refine zO ?_
          refine zP ?_
          exact ne_ret1 Tryz.hT rfl (.tmp rfl) () (by rw [no (by simp_all)]) trivial fun W _ => NewBx.nil _ _
        refine zI ?_
        refine zE ?_
        refine zA ?_
        refine zA ?_
        refine zB ?_
        have e := yes (by simp_all) (by simp_all) (by simp_all) (by simp_all)
        refine wl_pure Tryz.hT rfl rfl rfl ?_
        refine wl_loadBx 0 Tryz.hT rfl rfl rfl rfl rfl rfl rfl rfl ?_
        refine wl_nil ?_
        refine zE ?_
        refine wc_cond rfl (fun hg => ?_) (fun hg => ?_)
        · refine zA ?_
          refine zB ?_
          refine wl_pure Tryz.hT rfl rfl rfl ?_
          refine wl_loadBx 0 Tryz.hT rfl rfl rfl rfl rfl rfl rfl rfl ?_
          refine wl_pure Tryz.hT rfl rfl rfl ?_
          refine wl_pure Tryz.hT rfl rfl rfl ?_
          refine wl_part 26 rfl (fun h26 => ?_) (fun h26 => ?_)
          · refine wl_pure Tryz.hT rfl rfl rfl ?_
            refine wl_loadBx 0 Tryz.hT rfl rfl rfl rfl rfl rfl rfl rfl ?_
            refine wl_pure Tryz.hT rfl rfl rfl ?_
            refine wl_pure Tryz.hT rfl rfl rfl ?_
            refine wl_pure Tryz.hT rfl rfl rfl ?_
            refine wl_nil ?_
            refine zE ?_
            refine zO ?_
            refine zP ?_
            exact ne_ret1 Tryz.hT rfl (.tmp rfl) () (by rw [e, hg]; simp_all) trivial fun W _ => NewBx.nil _ _
          · refine wl_skip rfl rfl ?_
            refine wl_skip rfl rfl ?_
            refine wl_skip rfl rfl ?_
            refine wl_pure Tryz.hT rfl rfl rfl ?_
            refine wl_pure Tryz.hT rfl rfl rfl ?_
            refine wl_nil ?_
            refine zE ?_
            refine zO ?_
            refine zP ?_
            exact ne_ret1 Tryz.hT rfl (.tmp rfl) () (by rw [e, hg]; simp_all) trivial fun W _ => NewBx.nil _ _
        · refine zI ?_
          refine zE ?_
          refine zA ?_
          refine zB ?_
          refine wl_pure Tryz.hT rfl rfl rfl ?_
          refine wl_loadBx 0 Tryz.hT rfl rfl rfl rfl rfl rfl rfl rfl ?_
          refine wl_call1 rfl rfl rfl rfl rfl rfl (by kernel_rfl) (fun W _ => (outside_gives ..)) ?_
          refine wl_pure Tryz.hT rfl rfl rfl ?_
          refine wl_pure Tryz.hT rfl rfl rfl ?_
          refine wl_part 35 rfl (fun h35 => ?_) (fun h35 => ?_)
          · refine wl_pure Tryz.hT rfl rfl rfl ?_
            refine wl_loadBx 0 Tryz.hT rfl rfl rfl rfl rfl rfl rfl rfl ?_
            refine wl_call1 rfl rfl rfl rfl rfl rfl (by kernel_rfl) (fun W _ => (outside_gives ..)) ?_
            refine wl_pure Tryz.hT rfl rfl rfl ?_
            refine wl_pure Tryz.hT rfl rfl rfl ?_
            refine wl_pure Tryz.hT rfl rfl rfl ?_
            refine wl_nil ?_
            refine zE ?_
            refine zO ?_
            exact ne_ret1 Tryz.hT rfl (.tmp rfl) () (by rw [e, hg]; simp_all [outB_btw]) trivial fun W _ => NewBx.nil _ _
          · refine wl_skip rfl rfl ?_
            refine wl_skip rfl rfl ?_
            refine wl_skip rfl rfl ?_
            refine wl_skip rfl rfl ?_
            refine wl_pure Tryz.hT rfl rfl rfl ?_
            refine wl_pure Tryz.hT rfl rfl rfl ?_
            refine wl_nil ?_
            refine zE ?_
            refine zO ?_
            exact ne_ret1 Tryz.hT rfl (.tmp rfl) () (by rw [e, hg]; simp_all [outB_btw]) trivial fun W _ => NewBx.nil _ _
theorem end_gives (W : World) (p : Option Addr) (cap : Nat) (l : List Sd) (i : Nat) (hn : l.length < 4611686018427387904) (hR : RingP W p l) (hi : i < l.length) :
    CallsR Tryz.prog 109 #[slv p l.length cap, .int .i64 (i : Nat)] W (fun _ : Unit => .tuple #[.int .i64 (sd l (nxt l.length i)).x, .int .i64 (sd l (nxt l.length i)).y]) (fun _ => True) (fun _ => []) := by
  obtain ⟨b, off, rfl, hrow⟩ := hR.row hi
  have hi2 := nxt_lt hi
  refine calls_enter (args := [slv (some ⟨b, off, none⟩) l.length cap, .int .i64 (i : Nat)]) Tryz.func109 rfl rfl rfl ?_
  refine zA ?_
  refine zB ?_
  refine wl_pure Tryz.hT rfl rfl rfl ?_
  refine wl_pure Tryz.hT rfl rfl rfl ?_
  refine wl_nil ?_
  refine zE ?_
  refine zA ?_
  refine zB ?_
  refine wl_pure Tryz.hT rfl rfl rfl ?_
  refine wl_pure Tryz.hT rfl rfl rfl ?_
  refine wl_upd 8 (.int .i64 ((i + 1 : Nat) : Int)) rfl (congrArg (Value.int .i64) (show w64 ((i : Nat) + 1) = ((i + 1 : Nat) : Int) by rw [w64_id (by omega) (by omega)]; omega)) ?_
  refine wl_pure Tryz.hT rfl rfl rfl ?_
  refine wl_pure Tryz.hT rfl rfl rfl ?_
  refine wl_rem rfl rfl rfl rfl rfl (by omega) ?_
  refine wl_upd 11 (.int .i64 (nxt l.length i : Nat)) rfl (congrArg (Value.int .i64) (show Int.tmod ((i + 1 : Nat) : Int) (l.length : Nat) = (nxt l.length i : Nat) from (Int.ofNat_tmod _ _).symm)) ?_
  refine wl_pure Tryz.hT rfl rfl rfl ?_
  refine wl_nil ?_
  refine zE ?_
  refine zA ?_
  refine zT Tryz.mixed (by kernel_rfl) ?_
  refine wq_pure Tryz.hT rfl rfl rfl ?_
  refine wq_pure Tryz.hT rfl rfl rfl ?_
  refine wq_indexAddr Tryz.hT rfl rfl rfl rfl rfl rfl rfl (by omega) (by omega) ?_
  refine wq_pure Tryz.hT rfl rfl rfl ?_
  refine wq_load rfl rfl rfl rfl (fun W hp => RowAt.load 0 Tryz.hT rfl ((fun W hp => (hrow (nxt l.length i) hi2).hp hp) W hp) rfl) ?_
  refine wq_pure Tryz.hT rfl rfl rfl ?_
  refine wq_pure Tryz.hT rfl rfl rfl ?_
  refine wq_indexAddr Tryz.hT rfl rfl rfl rfl rfl rfl rfl (by omega) (by omega) ?_
  refine wq_pure Tryz.hT rfl rfl rfl ?_
  refine wq_load rfl rfl rfl rfl (fun W hp => RowAt.load 1 Tryz.hT rfl ((fun W hp => (hrow (nxt l.length i) hi2).hp hp) W hp) rfl) ?_
  refine wq_pure Tryz.hT rfl rfl rfl ?_
  refine wq_pure Tryz.hT rfl rfl rfl ?_
  refine wq_nil ?_
  refine wl_nil ?_
  refine zE ?_
  refine zO ?_
  exact ne_ret2 Tryz.hT rfl (.tmp rfl) (.tmp rfl) () rfl trivial fun W _ => NewBx.nil _ _
def dirX (l : List Sd) (i : Nat) : Int := sgI (w64 ((sd l (nxt l.length i)).x - (sd l i).x))
def dirY (l : List Sd) (i : Nat) : Int := sgI (w64 ((sd l (nxt l.length i)).y - (sd l i).y))
theorem direction_gives (W : World) (p : Option Addr) (cap : Nat) (l : List Sd) (i : Nat) (hn : l.length < 4611686018427387904) (hR : RingP W p l) (hi : i < l.length) :
    CallsR Tryz.prog 108 #[slv p l.length cap, .int .i64 (i : Nat)] W (fun _ : Unit => .tuple #[.int .i64 (dirX l i), .int .i64 (dirY l i)]) (fun _ => True) (fun _ => []) := by
  obtain ⟨b, off, rfl, hrow⟩ := hR.row hi
  refine calls_enter (args := [slv (some ⟨b, off, none⟩) l.length cap, .int .i64 (i : Nat)]) Tryz.func108 rfl rfl rfl ?_
  refine zA ?_
  refine zB ?_
  refine wl_pure Tryz.hT rfl rfl rfl ?_
  refine wl_pure Tryz.hT rfl rfl rfl ?_
  refine wl_nil ?_
  refine zE ?_
  refine zA ?_
  refine zB ?_
  refine wl_pure Tryz.hT rfl rfl rfl ?_
  refine wl_pure Tryz.hT rfl rfl rfl ?_
  refine wl_call1 rfl rfl rfl rfl rfl rfl (by kernel_rfl) (fun W hp => end_gives W _ cap l i hn (hR.hp hp) hi) ?_
  refine wl_pure Tryz.hT rfl rfl rfl ?_
  refine wl_pure Tryz.hT rfl rfl rfl ?_
  refine wl_pure Tryz.hT rfl rfl rfl ?_
  refine wl_pure Tryz.hT rfl rfl rfl ?_
  refine wl_pure Tryz.hT rfl rfl rfl ?_
  refine wl_nil ?_
  refine zE ?_
  refine zA ?_
  refine zT Tryz.mixed (by kernel_rfl) ?_
  refine wq_pure Tryz.hT rfl rfl rfl ?_
  refine wq_pure Tryz.hT rfl rfl rfl ?_
  refine wq_pure Tryz.hT rfl rfl rfl ?_
  refine wq_indexAddr Tryz.hT rfl rfl rfl rfl rfl rfl rfl (by omega) (by omega) ?_
  refine wq_pure Tryz.hT rfl rfl rfl ?_
  refine wq_load rfl rfl rfl rfl (fun W hp => RowAt.load 0 Tryz.hT rfl ((fun W hp => (hrow i hi).hp hp) W hp) rfl) ?_
  refine wq_pure Tryz.hT rfl rfl rfl ?_
  refine wq_call1 rfl rfl rfl rfl rfl rfl (by kernel_rfl) (fun W _ => (sign_gives ..)) ?_
  refine wq_pure Tryz.hT rfl rfl rfl ?_
  refine wq_pure Tryz.hT rfl rfl rfl ?_
  refine wq_pure Tryz.hT rfl rfl rfl ?_
  refine wq_indexAddr Tryz.hT rfl rfl rfl rfl rfl rfl rfl (by omega) (by omega) ?_
  refine wq_pure Tryz.hT rfl rfl rfl ?_
  refine wq_load rfl rfl rfl rfl (fun W hp => RowAt.load 1 Tryz.hT rfl ((fun W hp => (hrow i hi).hp hp) W hp) rfl) ?_
  refine wq_pure Tryz.hT rfl rfl rfl ?_
  refine wq_call1 rfl rfl rfl rfl rfl rfl (by kernel_rfl) (fun W _ => (sign_gives ..)) ?_
  refine wq_pure Tryz.hT rfl rfl rfl ?_
  refine wq_pure Tryz.hT rfl rfl rfl ?_
  refine wq_nil ?_
  refine wl_nil ?_
  refine zE ?_
  refine zO ?_
  exact ne_ret2 Tryz.hT rfl (.tmp rfl) (.tmp rfl) () rfl trivial fun W _ => NewBx.nil _ _
def trnR (l : List Sd) (i : Nat) : Int := w64 (w64 (dirX l (prv l.length i) * dirY l i) - w64 (dirY l (prv l.length i) * dirX l i))
theorem turn_gives (W : World) (p : Option Addr) (cap : Nat) (l : List Sd) (i : Nat) (hn : l.length < 4611686018427387904) (hR : RingP W p l) (hi : i < l.length) :
    CallsR Tryz.prog 51 #[slv p l.length cap, .int .i64 (i : Nat)] W (fun _ : Unit => .int .i64 (trnR l i)) (fun _ => True) (fun _ => []) := by
  have hi2 := prv_lt hi
  refine calls_enter (args := [slv p l.length cap, .int .i64 (i : Nat)]) Tryz.func51 rfl rfl rfl ?_
  refine zA ?_
  refine zB ?_
  refine wl_pure Tryz.hT rfl rfl rfl ?_
  refine wl_nil ?_
  refine zE ?_
  refine zA ?_
  refine zB ?_
  refine wl_pure Tryz.hT rfl rfl rfl ?_
  refine wl_pure Tryz.hT rfl rfl rfl ?_
  refine wl_pure Tryz.hT rfl rfl rfl ?_
  refine wl_pure Tryz.hT rfl rfl rfl ?_
  refine wl_pure Tryz.hT rfl rfl rfl ?_
  refine wl_pure Tryz.hT rfl rfl rfl ?_
  refine wl_upd 15 (.int .i64 ((i + l.length - 1 : Nat) : Int)) rfl (congrArg (Value.int .i64) (show w64 (w64 ((i : Nat) + (l.length : Nat)) - 1) = ((i + l.length - 1 : Nat) : Int) by rw [w64_id (x := (i : Nat) + (l.length : Nat)) (by omega) (by omega), w64_id (by omega) (by omega)]; omega)) ?_
  refine wl_pure Tryz.hT rfl rfl rfl ?_
  refine wl_pure Tryz.hT rfl rfl rfl ?_
  refine wl_rem rfl rfl rfl rfl rfl (by omega) ?_
  refine wl_upd 18 (.int .i64 (prv l.length i : Nat)) rfl (congrArg (Value.int .i64) (show Int.tmod ((i + l.length - 1 : Nat) : Int) (l.length : Nat) = (prv l.length i : Nat) from (Int.ofNat_tmod _ _).symm)) ?_
  refine wl_call1 rfl rfl rfl rfl rfl rfl (by kernel_rfl) (fun W hp => direction_gives W _ cap l (prv l.length i) hn (hR.hp hp) hi2) ?_
  refine wl_pure Tryz.hT rfl rfl rfl ?_
  refine wl_pure Tryz.hT rfl rfl rfl ?_
  refine wl_pure Tryz.hT rfl rfl rfl ?_
  refine wl_pure Tryz.hT rfl rfl rfl ?_
  refine wl_pure Tryz.hT rfl rfl rfl ?_
  refine wl_nil ?_
  refine zE ?_
  refine zA ?_
  refine zB ?_
  refine wl_pure Tryz.hT rfl rfl rfl ?_
  refine wl_pure Tryz.hT rfl rfl rfl ?_
  refine wl_call1 rfl rfl rfl rfl rfl rfl (by kernel_rfl) (fun W hp => direction_gives W _ cap l i hn (hR.hp hp) hi) ?_
  refine wl_pure Tryz.hT rfl rfl rfl ?_
  refine wl_pure Tryz.hT rfl rfl rfl ?_
  refine wl_pure Tryz.hT rfl rfl rfl ?_
  refine wl_pure Tryz.hT rfl rfl rfl ?_
  refine wl_pure Tryz.hT rfl rfl rfl ?_
  refine wl_nil ?_
  refine zE ?_
  refine zA ?_
  refine zB ?_
  refine wl_pure Tryz.hT rfl rfl rfl ?_
  refine wl_pure Tryz.hT rfl rfl rfl ?_
  refine wl_pure Tryz.hT rfl rfl rfl ?_
  refine wl_pure Tryz.hT rfl rfl rfl ?_
  refine wl_pure Tryz.hT rfl rfl rfl ?_
  refine wl_pure Tryz.hT rfl rfl rfl ?_
  refine wl_pure Tryz.hT rfl rfl rfl ?_
  refine wl_pure Tryz.hT rfl rfl rfl ?_
  refine wl_nil ?_
  refine zE ?_
  refine zO ?_
  exact ne_ret1 Tryz.hT rfl (.tmp rfl) () rfl trivial fun W _ => NewBx.nil _ _
def twR (l : List Sd) : Nat → Int
  | 0 => 0
  | k + 1 => w64 (w64 (twR l k + w64 ((sd l k).x * (sd l (nxt l.length k)).y)) - w64 ((sd l (nxt l.length k)).x * (sd l k).y))
theorem twice_gives (W : World) (p : Option Addr) (cap : Nat) (l : List Sd) (hn : l.length < 4611686018427387904) (hR : RingP W p l) :
    CallsR Tryz.prog 53 #[slv p l.length cap] W (fun _ : Unit => .int .i64 (twR l l.length)) (fun _ => True) (fun _ => []) := by
  refine calls_enter (args := [slv p l.length cap]) Tryz.func53 rfl rfl rfl ?_
  refine zA ?_
  refine zB ?_
  refine wl_pure Tryz.hT rfl rfl rfl ?_
  refine wl_nil ?_
  refine zE ?_
  refine zA ?_
  refine zB ?_
  refine wl_pure Tryz.hT rfl rfl rfl ?_
  refine wl_nil ?_
  refine zE ?_
  refine zA ?_
  refine zA ?_
  refine zB ?_
  refine wl_pure Tryz.hT rfl rfl rfl ?_
  refine wl_nil ?_
  refine zE ?_
  refine zH ?_
  refine wc_loop (X := Nat) (fun k => [(0, slv p l.length cap), (3, .int .i64 (twR l k)), (4, .int .i64 (k : Nat))]) (fun _ => []) (fun k => k ≤ l.length) (fun k => l.length - k) 0 (Nat.zero_le _) ⟨rfl, rfl, rfl, trivial⟩ [] rfl ?_
  intro k hk
  refine zA ?_
  refine zA ?_
  refine zB ?_
  refine wl_pure Tryz.hT rfl rfl rfl ?_
  refine wl_pure Tryz.hT rfl rfl rfl ?_
  refine wl_pure Tryz.hT rfl rfl rfl ?_
  refine wl_pure Tryz.hT rfl rfl rfl ?_
  refine wl_nil ?_
  refine zE ?_
  refine wc_cond rfl (fun h => ?_) (fun h => ?_)
  rotate_left
  · have e : k = l.length := by simp at h; omega
    subst e
    refine zJ ?_
    refine zK ?_
    refine zK ?_
    refine zL ?_
    refine zE ?_
    refine zA ?_
    refine zB ?_
    refine wl_pure Tryz.hT rfl rfl rfl ?_
    refine wl_pure Tryz.hT rfl rfl rfl ?_
    refine wl_nil ?_
    refine zE ?_
    refine zO ?_
    exact ne_ret1 Tryz.hT rfl (.tmp rfl) () rfl trivial fun W _ => NewBx.nil _ _
  have hk : k < l.length := by simp at h; omega
  clear h
  obtain ⟨b, off, rfl, hrow⟩ := hR.row hk
  refine zI ?_
  refine zE ?_
  refine zA ?_
  refine zH ?_
  refine zA ?_
  refine zB ?_
  refine wl_pure Tryz.hT rfl rfl rfl ?_
  refine wl_pure Tryz.hT rfl rfl rfl ?_
  refine wl_call1 rfl rfl rfl rfl rfl rfl (by kernel_rfl) (fun W hp => end_gives W _ cap l k hn (hR.hp hp) hk) ?_
  refine wl_pure Tryz.hT rfl rfl rfl ?_
  refine wl_pure Tryz.hT rfl rfl rfl ?_
  refine wl_pure Tryz.hT rfl rfl rfl ?_
  refine wl_pure Tryz.hT rfl rfl rfl ?_
  refine wl_pure Tryz.hT rfl rfl rfl ?_
  refine wl_nil ?_
  refine zE ?_
  refine zT Tryz.mixed (by kernel_rfl) ?_
  refine wq_pure Tryz.hT rfl rfl rfl ?_
  refine wq_pure Tryz.hT rfl rfl rfl ?_
  refine wq_pure Tryz.hT rfl rfl rfl ?_
  refine wq_indexAddr Tryz.hT rfl rfl rfl rfl rfl rfl rfl (by omega) (by omega) ?_
  refine wq_pure Tryz.hT rfl rfl rfl ?_
  refine wq_load rfl rfl rfl rfl (fun W hp => RowAt.load 0 Tryz.hT rfl ((fun W hp => (hrow k hk).hp hp) W hp) rfl) ?_
  refine wq_pure Tryz.hT rfl rfl rfl ?_
  refine wq_pure Tryz.hT rfl rfl rfl ?_
  refine wq_pure Tryz.hT rfl rfl rfl ?_
  refine wq_pure Tryz.hT rfl rfl rfl ?_
  refine wq_pure Tryz.hT rfl rfl rfl ?_
  refine wq_pure Tryz.hT rfl rfl rfl ?_
  refine wq_indexAddr Tryz.hT rfl rfl rfl rfl rfl rfl rfl (by omega) (by omega) ?_
  refine wq_pure Tryz.hT rfl rfl rfl ?_
  refine wq_load rfl rfl rfl rfl (fun W hp => RowAt.load 1 Tryz.hT rfl ((fun W hp => (hrow k hk).hp hp) W hp) rfl) ?_
  refine wq_pure Tryz.hT rfl rfl rfl ?_
  refine wq_pure Tryz.hT rfl rfl rfl ?_
  refine wq_pure Tryz.hT rfl rfl rfl ?_
  refine wq_nil ?_
  refine wl_nil ?_
  refine zN ?_
  refine zE ?_
  refine zB ?_
  refine wl_pure Tryz.hT rfl rfl rfl ?_
  refine wl_pure Tryz.hT rfl rfl rfl ?_
  refine wl_pure Tryz.hT rfl rfl rfl ?_
  refine wl_nil ?_
  exact ne_loop (k + 1) hk (by omega) ⟨rfl, rfl, congrArg (fun z => some (Value.int .i64 z)) (wrap_id (x := (k : Int) + 1) (by omega) (by omega)), trivial⟩ [] rfl
end Go.Proofs.YtnpfkmbcejgnjaaGreatDoor
