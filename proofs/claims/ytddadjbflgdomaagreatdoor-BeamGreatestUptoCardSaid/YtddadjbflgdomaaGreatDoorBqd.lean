/-
  Lemmas that the theorem beamBalance_upto_card needs (part 4 of 5).
-/
import Derived.Test.YtddadjbflgdomaaGreatDoorBqc
import Derived.Lib.SlicesCompact
import Derived.Shelf.Lays
import Derived.Shelf.SlLaysN
import Derived.Shelf.Small.Bits
namespace Go.Proofs.YtddadjbflgdomaaGreatDoor
open Go Go.RowKit Go.Am Go.Lib
set_option maxRecDepth 10000
-- BOXES 3
theorem hasPrefix_itoa (z : Int) : hasPrefix (itoa z) [45] = decide (z < 0) := by
  rw [hasPrefix45]
  refine decide_eq_decide.2 ?_
  unfold itoa
  split
  · rename_i h; exact ⟨fun _ => h, fun _ => rfl⟩
  · rename_i h
    obtain ⟨b, r, hb, h3, h4⟩ := first_digit z.toNat
    rw [hb]
    constructor
    · intro e
      have e : b = 45 := by simpa using e
      rw [e] at h3; exact absurd h3 (by decide)
    · intro h5; exact absurd h5 h
theorem itoa_0 {z : Int} : itoa z = [48] ↔ z = 0 := by
  constructor
  · intro h
    have h2 := trimPrefix_itoa z
    rw [h] at h2
    have h3 := congrArg dval h2
    rw [dval_dd] at h3
    have h4 : dval (trimPrefix [48] [45]) = 0 := by decide
    rw [h4] at h3; omega
  · rintro rfl; exact itoa_zero
theorem itoa_len300 {z : Int} (h : okN z) : (itoa z).length ≤ 301 := by
  have h2 := dd300.2 h
  unfold itoa
  split
  · rw [List.length_cons]; omega
  · rename_i hz; rw [show z.toNat = z.natAbs by omega]; omega
theorem opposite_gives (z : Int) (hz : okN z) : Gives Tryz.prog 80 [str (itoa z)] (str (itoa (-z))) := by
  intro W
  refine calls_enter Tryz.func80 rfl rfl rfl ?_
  refine zA ?_
  refine zB ?_
  refine wl_pure Tryz.hT rfl rfl rfl ?_
  refine wl_nil ?_
  refine zE ?_
  iterate 2 refine zA ?_
  refine zB ?_
  iterate 2 refine wl_pure Tryz.hT rfl rfl rfl ?_
  by_cases h0 : z = 0
  · refine wl_upd 6 (.bool true) rfl (congrArg Value.bool ((strEqB _ [48]).trans (decide_eq_true (itoa_0.2 h0)))) ?_
    refine wl_nil ?_
    refine zE ?_
    refine zR rfl ?_
    refine zA ?_
    refine zB ?_
    iterate 2 refine wl_pure Tryz.hT rfl rfl rfl ?_
    refine wl_nil ?_
    refine zE ?_
    refine zO ?_
    refine zP ?_
    exact ne_ret1 Tryz.hT rfl (.tmp rfl) () (by rw [h0]; rfl) trivial fun W _ => NewBx.nil _ _
  · refine wl_upd 6 (.bool false) rfl (congrArg Value.bool ((strEqB _ [48]).trans (decide_eq_false fun e => h0 (itoa_0.1 e)))) ?_
    refine wl_nil ?_
    refine zE ?_
    refine zS rfl ?_
    refine zI ?_
    refine zE ?_
    iterate 2 refine zA ?_
    refine zB ?_
    refine wl_pure Tryz.hT rfl rfl rfl ?_
    by_cases hn : z < 0
    · refine wl_call1 rfl rfl rfl rfl rfl rfl (by kernel_rfl) (fun W _ => (cutPrefix_gives (itoa z) [45] W).cast (by rw [trimPrefix_itoa, hasPrefix_itoa, decide_eq_true hn])) ?_
      iterate 5 refine wl_pure Tryz.hT rfl rfl rfl ?_
      refine wl_nil ?_
      refine zE ?_
      refine zA ?_
      refine zB ?_
      refine wl_pure Tryz.hT rfl rfl rfl ?_
      refine wl_nil ?_
      refine zE ?_
      refine zR rfl ?_
      refine zA ?_
      refine zB ?_
      iterate 2 refine wl_pure Tryz.hT rfl rfl rfl ?_
      refine wl_nil ?_
      refine zE ?_
      refine zO ?_
      refine zP ?_
      exact ne_ret1 Tryz.hT rfl (.tmp rfl) () (by rw [itoa, if_neg (by omega), show (-z).toNat = z.natAbs by omega]) trivial fun W _ => NewBx.nil _ _
    · refine wl_call1 rfl rfl rfl rfl rfl rfl (by kernel_rfl) (fun W _ => (cutPrefix_gives (itoa z) [45] W).cast (by rw [trimPrefix_itoa, hasPrefix_itoa, decide_eq_false hn])) ?_
      iterate 5 refine wl_pure Tryz.hT rfl rfl rfl ?_
      refine wl_nil ?_
      refine zE ?_
      refine zA ?_
      refine zB ?_
      refine wl_pure Tryz.hT rfl rfl rfl ?_
      refine wl_nil ?_
      refine zE ?_
      refine zS rfl ?_
      refine zI ?_
      refine zE ?_
      refine zA ?_
      refine zB ?_
      refine wl_pure Tryz.hT rfl rfl rfl ?_
      refine wl_strAdd rfl rfl rfl rfl rfl (by decide) (Nat.le_trans (itoa_len300 hz) (by decide)) ?_
      refine wl_pure Tryz.hT rfl rfl rfl ?_
      refine wl_nil ?_
      refine zE ?_
      refine zO ?_
      exact ne_ret1 Tryz.hT rfl (.tmp rfl) () (by
        rw [show itoa (-z) = 45 :: decDigits (-z).natAbs by rw [itoa, if_pos (by omega)], Int.natAbs_neg]
        rw [show itoa z = decDigits z.natAbs by rw [itoa, if_neg hn, show z.toNat = z.natAbs by omega]]; rfl) trivial fun W _ => NewBx.nil _ _
theorem okN_neg {z : Int} (h : okN z) : okN (-z) := by unfold okN; rw [Int.natAbs_neg]; exact h
set_option maxHeartbeats 8000000 in
theorem ratNumber_gives (z d : Int) (hd : d ≠ 0) (hz : okN z) (hd2 : okN d) (W : World) (ht : TabP W) :
    CallsR Tryz.prog 39 #[str (itoa z), str (itoa d)] W (fun _ : Unit => .tuple #[str (numS (mkRat (if d < 0 then -z else z) d.natAbs)), .int .i64 0]) (fun _ => True) (fun _ => []) := by
  refine calls_enter (args := [str (itoa z), str (itoa d)]) Tryz.func39 rfl rfl rfl ?_
  refine zA ?_
  refine zB ?_
  iterate 2 refine wl_pure Tryz.hT rfl rfl rfl ?_
  refine wl_nil ?_
  refine zE ?_
  iterate 2 refine zA ?_
  refine zB ?_
  refine wl_pure Tryz.hT rfl rfl rfl ?_
  refine wl_call1 rfl rfl rfl rfl rfl rfl (by kernel_rfl) (fun W _ => (prefix_gives (itoa d) [45] W).cast (by rw [hasPrefix_itoa])) ?_
  refine wl_nil ?_
  refine ne_then ?_
  refine wc_cutS (X := Unit) (fun _ => [(0, str (itoa (if d < 0 then -z else z))), (1, str (decDigits d.natAbs)), (4, str []), (5, .int .i64 0)]) (fun _ => []) (fun _ => True) ?_ ?_
  · refine wc_cond rfl (fun hc => ?_) (fun hc => ?_)
    · have hc := of_decide_eq_true hc
      refine zB ?_
      refine wl_pure Tryz.hT rfl rfl rfl ?_
      refine wl_call1 rfl rfl rfl rfl rfl rfl (by kernel_rfl) (fun W _ => opposite_gives z hz W) ?_
      refine wl_pure Tryz.hT rfl rfl rfl ?_
      refine wl_call1 rfl rfl rfl rfl rfl rfl (by kernel_rfl) (fun W _ => opposite_gives d hd2 W) ?_
      iterate 2 refine wl_pure Tryz.hT rfl rfl rfl ?_
      refine wl_nil ?_
      rw [if_pos hc]
      exact ne_cut () trivial ⟨rfl, by rw [show itoa (-d) = decDigits d.natAbs by rw [itoa, if_neg (by omega), show (-d).toNat = d.natAbs by omega]]; rfl, rfl, rfl, trivial⟩ [] rfl
    · have hc := of_decide_eq_false hc
      refine zI ?_
      rw [if_neg hc]
      exact ne_cut () trivial ⟨rfl, by rw [show decDigits d.natAbs = itoa d by rw [itoa, if_neg hc, show d.toNat = d.natAbs by omega]]; rfl, rfl, rfl, trivial⟩ [] rfl
  · intro _ _
    obtain ⟨x, hx⟩ : ∃ x, (if d < 0 then -z else z) = x := ⟨_, rfl⟩
    obtain ⟨e, he⟩ : ∃ e, d.natAbs = e := ⟨_, rfl⟩
    have hxo : okN x := by rw [← hx]; split; exact okN_neg hz; exact hz
    have heo : e < ten300 := by rw [← he]; exact hd2
    rw [hx, he]
    have he0 : e ≠ 0 := by omega
    obtain ⟨g, hg⟩ : ∃ g, Nat.gcd x.natAbs e = g := ⟨_, rfl⟩
    have hg0 : 0 < g := by rw [← hg]; exact Nat.gcd_pos_of_pos_right _ (by omega)
    obtain ⟨k, hk⟩ : ∃ k, x = (g : Int) * k := Int.natAbs_dvd_natAbs.1 (by rw [Int.natAbs_natCast, ← hg]; exact Nat.gcd_dvd_left ..)
    obtain ⟨m, hm⟩ : ∃ m, e = g * m := by rw [← hg]; exact Nat.gcd_dvd_right ..
    have hge : g ≤ e := by rw [hm]; exact Nat.le_mul_of_pos_right _ (Nat.pos_of_ne_zero fun h => he0 (by rw [hm, h, Nat.mul_zero]))
    have hgo : okN (g : Int) := by unfold okN; rw [Int.natAbs_natCast]; omega
    have hkx : k.natAbs ≤ x.natAbs := by rw [hk, Int.natAbs_mul]; exact Nat.le_mul_of_pos_left _ (by omega)
    have hme : m ≤ e := by rw [hm]; exact Nat.le_mul_of_pos_left _ hg0
    have hko : okN k := Nat.lt_of_le_of_lt hkx hxo
    have hmo : m < ten300 := by omega
    have hq1 : x / (g : Int) = k := by rw [hk]; exact Int.mul_ediv_cancel_left _ (by omega)
    have hq2 : e / g = m := by rw [hm]; exact Nat.mul_div_cancel_left _ hg0
    have hone : m = 1 → numS (mkRat x e) = itoa k := fun h => by rw [numS_one he0 (by rw [hg, hq2, h]), hg, hq1]
    have htwo : m ≠ 1 → numS (mkRat x e) = itoa k ++ [47] ++ decDigits m := fun h => by rw [numS_two he0 (by rw [hg, hq2]; exact h), hg, hq1, hq2, itoa_eq_dd']
    refine wc_seq ?_
    refine zB ?_
    iterate 2 refine wl_pure Tryz.hT rfl rfl rfl ?_
    refine wl_call1 rfl rfl rfl rfl rfl rfl (by kernel_rfl) (fun W hp => (gcdS_gives x e hxo heo W (ht.hp hp)).cast (by rw [hg])) ?_
    iterate 5 refine wl_pure Tryz.hT rfl rfl rfl ?_
    refine wl_nil ?_
    refine zE ?_
    iterate 2 refine zA ?_
    refine zB ?_
    iterate 2 refine wl_pure Tryz.hT rfl rfl rfl ?_
    refine wl_nil ?_
    refine zE ?_
    refine zS rfl ?_
    refine zI ?_
    refine zE ?_
    iterate 2 refine zA ?_
    refine zB ?_
    iterate 2 refine wl_pure Tryz.hT rfl rfl rfl ?_
    refine wl_upd 24 (.bool (decide (g ≠ 1))) rfl (congrArg Value.bool (by show (!_) = _; rw [strEqB, decide_not]; exact congrArg not (decide_eq_decide.2 ⟨fun h => by have := congrArg dval h; rw [dval_dd] at this; exact this, fun h => by rw [h, dd_one]⟩))) ?_
    refine wl_nil ?_
    refine ne_then ?_
    refine wc_cutS (X := Unit) (fun _ => [(0, str (itoa k)), (1, str (decDigits m)), (4, str []), (5, .int .i64 0)]) (fun _ => []) (fun _ => True) ?_ ?_
    · refine wc_cond rfl (fun hc => ?_) (fun hc => ?_)
      · refine zA ?_
        refine zB ?_
        iterate 2 refine wl_pure Tryz.hT rfl rfl rfl ?_
        refine wl_call1 rfl rfl rfl rfl rfl rfl (by kernel_rfl) (fun W hp => by have h := idiv_gives (g : Int) k (by omega) (by rw [← hk]; exact hxo) hgo W (ht.hp hp); rw [← hk, itoa_eq_dd'] at h; exact h) ?_
        iterate 5 refine wl_pure Tryz.hT rfl rfl rfl ?_
        refine wl_nil ?_
        refine zE ?_
        refine zB ?_
        iterate 2 refine wl_pure Tryz.hT rfl rfl rfl ?_
        refine wl_call1 rfl rfl rfl rfl rfl rfl (by kernel_rfl) (fun W hp => by have h := idiv_gives (g : Int) (m : Nat) (by omega) (by rw [← Int.natCast_mul, ← hm]; unfold okN; rw [Int.natAbs_natCast]; exact heo) hgo W (ht.hp hp); rw [← Int.natCast_mul, ← hm, itoa_eq_dd', itoa_eq_dd', itoa_eq_dd'] at h; exact h) ?_
        iterate 5 refine wl_pure Tryz.hT rfl rfl rfl ?_
        refine wl_nil ?_
        exact ne_cut () trivial ⟨rfl, rfl, rfl, rfl, trivial⟩ [] rfl
      · have hc := of_decide_eq_false hc
        have h1 : g = 1 := Decidable.byContradiction hc
        have hkx : k = x := by rw [hk, h1]; omega
        have hme : m = e := by rw [hm, h1]; omega
        refine zI ?_
        rw [hkx, hme]
        exact ne_cut () trivial ⟨rfl, rfl, rfl, rfl, trivial⟩ [] rfl
    · intro _ _
      iterate 2 refine zA ?_
      refine zB ?_
      iterate 2 refine wl_pure Tryz.hT rfl rfl rfl ?_
      by_cases h1 : m = 1
      · refine wl_upd 40 (.bool true) rfl (congrArg Value.bool ((strEqB _ [49]).trans (decide_eq_true (by rw [h1, dd_one])))) ?_
        refine wl_nil ?_
        refine zE ?_
        refine zR rfl ?_
        refine zA ?_
        refine zB ?_
        iterate 3 refine wl_pure Tryz.hT rfl rfl rfl ?_
        refine wl_nil ?_
        refine zE ?_
        refine zO ?_
        refine zP ?_
        exact ne_ret2 Tryz.hT rfl (.tmp rfl) (.tmp rfl) () (by rw [hone h1]) trivial fun W _ => NewBx.nil _ _
      · refine wl_upd 40 (.bool false) rfl (congrArg Value.bool ((strEqB _ [49]).trans (decide_eq_false (fun e => h1 (by have := congrArg dval e; rw [dval_dd] at this; exact this))))) ?_
        refine wl_nil ?_
        refine zE ?_
        refine zS rfl ?_
        refine zI ?_
        refine zE ?_
        refine zA ?_
        refine zB ?_
        refine wl_pure Tryz.hT rfl rfl rfl ?_
        refine wl_strAdd rfl rfl rfl rfl rfl (Nat.le_trans (itoa_len300 hko) (by decide)) (by decide) ?_
        refine wl_pure Tryz.hT rfl rfl rfl ?_
        refine wl_strAdd rfl rfl rfl rfl rfl (by have := itoa_len300 hko; rw [List.length_append]; show _ + 1 ≤ _; omega) (Nat.le_trans (dd300.2 hmo) (by decide)) ?_
        iterate 2 refine wl_pure Tryz.hT rfl rfl rfl ?_
        refine wl_nil ?_
        refine zE ?_
        refine zO ?_
        exact ne_ret2 Tryz.hT rfl (.tmp rfl) (.tmp rfl) () (by rw [htwo h1]) trivial fun W _ => NewBx.nil _ _
end Go.Proofs.YtddadjbflgdomaaGreatDoor
namespace Go.Proofs.YtddadjbflgdomaaGreatDoor
open Go Go.RowKit Go.Am Go.Lib
set_option maxRecDepth 10000
-- BOXES 4
theorem mul_8 {x y : Int} (hx : x.natAbs < 100000000) (hy : y.natAbs < 100000000) : (x * y).natAbs < 10000000000000000 := by
  rw [Int.natAbs_mul]
  exact Nat.lt_of_le_of_lt (Nat.mul_le_mul (Nat.le_of_lt_succ (Nat.lt_succ_of_lt hx)) (Nat.le_of_lt_succ (Nat.lt_succ_of_lt hy)) |> fun h => Nat.le_trans (Nat.mul_le_mul (show x.natAbs ≤ 99999999 by omega) (show y.natAbs ≤ 99999999 by omega)) (Nat.le_refl _)) (by decide)
theorem w64_mul8 {x y : Int} (hx : x.natAbs < 100000000) (hy : y.natAbs < 100000000) : w64 (x * y) = x * y := by
  have := mul_8 hx hy
  exact w64_id (by omega) (by omega)
theorem addC_gives (z d z' d' : Int) (h1 : z.natAbs < 100000000) (h2 : d.natAbs < 100000000) (h3 : z'.natAbs < 100000000) (h4 : d'.natAbs < 100000000) : Gives Tryz.prog 54 [natA z d, natA z' d'] (natA (z * d' + z' * d) (d * d')) := by
  intro W
  have a1 := mul_8 h1 h4
  have a2 := mul_8 h3 h2
  refine calls_enter Tryz.func54 rfl rfl rfl ?_
  refine zA ?_
  refine zB ?_
  (refine wl_box rfl rfl rfl rfl ?_; intro)
  (refine wl_box rfl rfl rfl rfl ?_; intro)
  (refine wl_allocZ Tryz.hZ rfl rfl rfl rfl ?_; intro)
  refine wl_nil ?_
  refine zE ?_
  refine zA ?_
  refine zB ?_
  refine wl_pure Tryz.hT rfl rfl rfl ?_
  refine wl_loadBx 0 Tryz.hT rfl rfl rfl rfl rfl rfl rfl rfl ?_
  refine wl_pure Tryz.hT rfl rfl rfl ?_
  refine wl_loadBx 1 Tryz.hT rfl rfl rfl rfl rfl rfl rfl rfl ?_
  refine wl_pure Tryz.hT rfl rfl rfl ?_
  refine wl_upd 9 (.int .i64 (z * d')) rfl (congrArg (Value.int .i64) (w64_mul8 h1 h4)) ?_
  refine wl_pure Tryz.hT rfl rfl rfl ?_
  refine wl_loadBx 1 Tryz.hT rfl rfl rfl rfl rfl rfl rfl rfl ?_
  refine wl_pure Tryz.hT rfl rfl rfl ?_
  refine wl_loadBx 0 Tryz.hT rfl rfl rfl rfl rfl rfl rfl rfl ?_
  refine wl_pure Tryz.hT rfl rfl rfl ?_
  refine wl_upd 14 (.int .i64 (z' * d)) rfl (congrArg (Value.int .i64) (w64_mul8 h3 h2)) ?_
  refine wl_pure Tryz.hT rfl rfl rfl ?_
  refine wl_upd 15 (.int .i64 (z * d' + z' * d)) rfl (congrArg (Value.int .i64) (w64_id (by omega) (by omega))) ?_
  refine wl_pure Tryz.hT rfl rfl rfl ?_
  refine wl_loadBx 0 Tryz.hT rfl rfl rfl rfl rfl rfl rfl rfl ?_
  refine wl_pure Tryz.hT rfl rfl rfl ?_
  refine wl_loadBx 1 Tryz.hT rfl rfl rfl rfl rfl rfl rfl rfl ?_
  refine wl_pure Tryz.hT rfl rfl rfl ?_
  refine wl_upd 20 (.int .i64 (d * d')) rfl (congrArg (Value.int .i64) (w64_mul8 h2 h4)) ?_
  refine wl_buildZ Tryz.hZ Tryz.hT rfl rfl rfl rfl rfl rfl rfl rfl ?_
  refine wl_storeBx 2 Tryz.hT rfl rfl rfl rfl rfl rfl rfl rfl rfl rfl rfl ?_
  refine wl_nil ?_
  refine zE ?_
  refine zO ?_
  exact ne_ret1 Tryz.hT rfl (.cell 2 rfl rfl rfl rfl rfl) () rfl trivial fun W _ => NewBx.nil _ _
theorem subC_gives (z d z' d' : Int) (h1 : z.natAbs < 100000000) (h2 : d.natAbs < 100000000) (h3 : z'.natAbs < 100000000) (h4 : d'.natAbs < 100000000) : Gives Tryz.prog 51 [natA z d, natA z' d'] (natA (z * d' - z' * d) (d * d')) := by
  intro W
  have a1 := mul_8 h1 h4
  have a2 := mul_8 h3 h2
  refine calls_enter Tryz.func51 rfl rfl rfl ?_
  refine zA ?_
  refine zB ?_
  (refine wl_box rfl rfl rfl rfl ?_; intro)
  (refine wl_box rfl rfl rfl rfl ?_; intro)
  (refine wl_allocZ Tryz.hZ rfl rfl rfl rfl ?_; intro)
  refine wl_nil ?_
  refine zE ?_
  refine zA ?_
  refine zB ?_
  refine wl_pure Tryz.hT rfl rfl rfl ?_
  refine wl_loadBx 0 Tryz.hT rfl rfl rfl rfl rfl rfl rfl rfl ?_
  refine wl_pure Tryz.hT rfl rfl rfl ?_
  refine wl_loadBx 1 Tryz.hT rfl rfl rfl rfl rfl rfl rfl rfl ?_
  refine wl_pure Tryz.hT rfl rfl rfl ?_
  refine wl_upd 9 (.int .i64 (z * d')) rfl (congrArg (Value.int .i64) (w64_mul8 h1 h4)) ?_
  refine wl_pure Tryz.hT rfl rfl rfl ?_
  refine wl_loadBx 1 Tryz.hT rfl rfl rfl rfl rfl rfl rfl rfl ?_
  refine wl_pure Tryz.hT rfl rfl rfl ?_
  refine wl_loadBx 0 Tryz.hT rfl rfl rfl rfl rfl rfl rfl rfl ?_
  refine wl_pure Tryz.hT rfl rfl rfl ?_
  refine wl_upd 14 (.int .i64 (z' * d)) rfl (congrArg (Value.int .i64) (w64_mul8 h3 h2)) ?_
  refine wl_pure Tryz.hT rfl rfl rfl ?_
  refine wl_upd 15 (.int .i64 (z * d' - z' * d)) rfl (congrArg (Value.int .i64) (w64_id (by omega) (by omega))) ?_
  refine wl_pure Tryz.hT rfl rfl rfl ?_
  refine wl_loadBx 0 Tryz.hT rfl rfl rfl rfl rfl rfl rfl rfl ?_
  refine wl_pure Tryz.hT rfl rfl rfl ?_
  refine wl_loadBx 1 Tryz.hT rfl rfl rfl rfl rfl rfl rfl rfl ?_
  refine wl_pure Tryz.hT rfl rfl rfl ?_
  refine wl_upd 20 (.int .i64 (d * d')) rfl (congrArg (Value.int .i64) (w64_mul8 h2 h4)) ?_
  refine wl_buildZ Tryz.hZ Tryz.hT rfl rfl rfl rfl rfl rfl rfl rfl ?_
  refine wl_storeBx 2 Tryz.hT rfl rfl rfl rfl rfl rfl rfl rfl rfl rfl rfl ?_
  refine wl_nil ?_
  refine zE ?_
  refine zO ?_
  exact ne_ret1 Tryz.hT rfl (.cell 2 rfl rfl rfl rfl rfl) () rfl trivial fun W _ => NewBx.nil _ _
theorem mulC_gives (z d z' d' : Int) (h1 : z.natAbs < 100000000) (h2 : d.natAbs < 100000000) (h3 : z'.natAbs < 100000000) (h4 : d'.natAbs < 100000000) : Gives Tryz.prog 46 [natA z d, natA z' d'] (natA (z * z') (d * d')) := by
  intro W
  refine calls_enter Tryz.func46 rfl rfl rfl ?_
  refine zA ?_
  refine zB ?_
  (refine wl_box rfl rfl rfl rfl ?_; intro)
  (refine wl_box rfl rfl rfl rfl ?_; intro)
  (refine wl_allocZ Tryz.hZ rfl rfl rfl rfl ?_; intro)
  refine wl_nil ?_
  refine zE ?_
  refine zA ?_
  refine zB ?_
  refine wl_pure Tryz.hT rfl rfl rfl ?_
  refine wl_loadBx 0 Tryz.hT rfl rfl rfl rfl rfl rfl rfl rfl ?_
  refine wl_pure Tryz.hT rfl rfl rfl ?_
  refine wl_loadBx 1 Tryz.hT rfl rfl rfl rfl rfl rfl rfl rfl ?_
  refine wl_pure Tryz.hT rfl rfl rfl ?_
  refine wl_upd 9 (.int .i64 (z * z')) rfl (congrArg (Value.int .i64) (w64_mul8 h1 h3)) ?_
  refine wl_pure Tryz.hT rfl rfl rfl ?_
  refine wl_loadBx 0 Tryz.hT rfl rfl rfl rfl rfl rfl rfl rfl ?_
  refine wl_pure Tryz.hT rfl rfl rfl ?_
  refine wl_loadBx 1 Tryz.hT rfl rfl rfl rfl rfl rfl rfl rfl ?_
  refine wl_pure Tryz.hT rfl rfl rfl ?_
  refine wl_upd 14 (.int .i64 (d * d')) rfl (congrArg (Value.int .i64) (w64_mul8 h2 h4)) ?_
  refine wl_buildZ Tryz.hZ Tryz.hT rfl rfl rfl rfl rfl rfl rfl rfl ?_
  refine wl_storeBx 2 Tryz.hT rfl rfl rfl rfl rfl rfl rfl rfl rfl rfl rfl ?_
  refine wl_nil ?_
  refine zE ?_
  refine zO ?_
  exact ne_ret1 Tryz.hT rfl (.cell 2 rfl rfl rfl rfl rfl) () rfl trivial fun W _ => NewBx.nil _ _
theorem divC_gives (z d z' d' : Int) (h1 : z.natAbs < 100000000) (h2 : d.natAbs < 100000000) (h3 : z'.natAbs < 100000000) (h4 : d'.natAbs < 100000000) : Gives Tryz.prog 131 [natA z d, natA z' d'] (natA (z * d') (d * z')) := by
  intro W
  refine calls_enter Tryz.func131 rfl rfl rfl ?_
  refine zA ?_
  refine zB ?_
  (refine wl_box rfl rfl rfl rfl ?_; intro)
  (refine wl_box rfl rfl rfl rfl ?_; intro)
  (refine wl_allocZ Tryz.hZ rfl rfl rfl rfl ?_; intro)
  refine wl_nil ?_
  refine zE ?_
  refine zA ?_
  refine zB ?_
  refine wl_pure Tryz.hT rfl rfl rfl ?_
  refine wl_loadBx 0 Tryz.hT rfl rfl rfl rfl rfl rfl rfl rfl ?_
  refine wl_pure Tryz.hT rfl rfl rfl ?_
  refine wl_loadBx 1 Tryz.hT rfl rfl rfl rfl rfl rfl rfl rfl ?_
  refine wl_pure Tryz.hT rfl rfl rfl ?_
  refine wl_upd 9 (.int .i64 (z * d')) rfl (congrArg (Value.int .i64) (w64_mul8 h1 h4)) ?_
  refine wl_pure Tryz.hT rfl rfl rfl ?_
  refine wl_loadBx 0 Tryz.hT rfl rfl rfl rfl rfl rfl rfl rfl ?_
  refine wl_pure Tryz.hT rfl rfl rfl ?_
  refine wl_loadBx 1 Tryz.hT rfl rfl rfl rfl rfl rfl rfl rfl ?_
  refine wl_pure Tryz.hT rfl rfl rfl ?_
  refine wl_upd 14 (.int .i64 (d * z')) rfl (congrArg (Value.int .i64) (w64_mul8 h2 h3)) ?_
  refine wl_buildZ Tryz.hZ Tryz.hT rfl rfl rfl rfl rfl rfl rfl rfl ?_
  refine wl_storeBx 2 Tryz.hT rfl rfl rfl rfl rfl rfl rfl rfl rfl rfl rfl ?_
  refine wl_nil ?_
  refine zE ?_
  refine zO ?_
  exact ne_ret1 Tryz.hT rfl (.cell 2 rfl rfl rfl rfl rfl) () rfl trivial fun W _ => NewBx.nil _ _
/-- A number whose parts are short. -/
def smQ (p : Rat) : Prop := p.num.natAbs < 100000000 ∧ p.den < 100000000
instance (p : Rat) : Decidable (smQ p) := by unfold smQ; infer_instance
theorem natOf_num (p : Rat) : natOfV (numS p) = if smQ p then .tuple #[natA p.num (p.den : Nat), .bool true] else natBad := by
  have hf : frm (numS p) = some (p.num, p.den) := frm_parS _ p.den_pos
  by_cases h : smQ p
  · have e : natOf (numS p) = some (p.num, p.den) := natOf_iff.2 ⟨hf, h.1, h.2, p.reduced⟩
    rw [if_pos h, natOfV, e]
  · have e : natOf (numS p) = none := by
      cases hn : natOf (numS p) with
      | none => rfl
      | some x =>
        obtain ⟨x1, x2⟩ := x
        obtain ⟨e1, e2, e3, _⟩ := natOf_iff.1 hn
        rw [hf] at e1
        injection e1 with e1
        injection e1 with ea eb
        subst ea; subst eb
        exact absurd ⟨e2, e3⟩ h
    rw [if_neg h, natOfV, e]
set_option maxHeartbeats 8000000 in
/-- quick: a short way for short numbers. -/
theorem quick_gives (p q r : Rat) (z d : Int) (g : Nat) (hE : entersB Tryz.prog g = true) (hlp : (numS p).length < 4611686018427387904) (hlq : (numS q).length < 4611686018427387904)
    (hg : smQ p → smQ q → Gives Tryz.prog g [natA p.num (p.den : Nat), natA q.num (q.den : Nat)] (natA z d) ∧ d ≠ 0 ∧ z.natAbs < 1000000000000000000 ∧ d.natAbs < 1000000000000000000 ∧ mkRat (if d < 0 then -z else z) d.natAbs = r) (W : World) (ht : TabP W) :
    CallsR Tryz.prog 45 #[str (numS p), str (numS q), .func (.func g) #[] #[]] W (fun _ : Unit => if smQ p ∧ smQ q then .tuple #[str (numS r), .bool true] else .tuple #[str [], .bool false]) (fun _ => True) (fun _ => []) := by
  refine calls_enter (args := [str (numS p), str (numS q), .func (.func g) #[] #[]]) Tryz.func45 rfl rfl rfl ?_
  refine zA ?_
  refine zB ?_
  iterate 2 refine wl_pure Tryz.hT rfl rfl rfl ?_
  refine wl_nil ?_
  refine zE ?_
  refine zA ?_
  refine zB ?_
  refine wl_pure Tryz.hT rfl rfl rfl ?_
  by_cases hp : smQ p
  · refine wl_call1 rfl rfl rfl rfl rfl rfl (by kernel_rfl) (fun W _ => (nativeOf_gives (numS p) hlp W).cast ((natOf_num p).trans (if_pos hp))) ?_
    iterate 3 refine wl_pure Tryz.hT rfl rfl rfl ?_
    (refine wl_allocZ Tryz.hZ rfl rfl rfl rfl ?_; intro)
    refine wl_storeBx 0 Tryz.hT rfl rfl rfl rfl rfl rfl rfl rfl rfl rfl rfl ?_
    refine wl_pure Tryz.hT rfl rfl rfl ?_
    refine wl_nil ?_
    rename_i b8
    refine zE ?_
    iterate 2 refine zA ?_
    refine zB ?_
    iterate 2 refine wl_pure Tryz.hT rfl rfl rfl ?_
    refine wl_nil ?_
    refine zE ?_
    refine zS rfl ?_
    refine zI ?_
    refine zE ?_
    refine zA ?_
    refine zB ?_
    refine wl_pure Tryz.hT rfl rfl rfl ?_
    by_cases hq : smQ q
    · obtain ⟨hg1, hd, hz1, hd1, hr⟩ := hg hp hq
      refine wl_call1 rfl rfl rfl rfl rfl rfl (by kernel_rfl) (fun W _ => (nativeOf_gives (numS q) hlq W).cast ((natOf_num q).trans (if_pos hq))) ?_
      iterate 3 refine wl_pure Tryz.hT rfl rfl rfl ?_
      (refine wl_allocZ Tryz.hZ rfl rfl rfl rfl ?_; intro)
      refine wl_storeBx 1 Tryz.hT rfl rfl rfl rfl rfl rfl rfl rfl rfl rfl rfl ?_
      refine wl_pure Tryz.hT rfl rfl rfl ?_
      refine wl_nil ?_
      rename_i b10
      refine zE ?_
      iterate 2 refine zA ?_
      refine zB ?_
      iterate 2 refine wl_pure Tryz.hT rfl rfl rfl ?_
      refine wl_nil ?_
      refine zE ?_
      refine zS rfl ?_
      refine zI ?_
      refine zE ?_
      refine zA ?_
      refine zB ?_
      refine wl_pure Tryz.hT rfl rfl rfl ?_
      refine wl_loadBx 0 Tryz.hT rfl rfl rfl rfl rfl rfl rfl rfl ?_
      refine wl_loadBx 1 Tryz.hT rfl rfl rfl rfl rfl rfl rfl rfl ?_
      refine wl_call1 (capt := []) rfl rfl rfl rfl rfl rfl hE (fun W _ => hg1 W) ?_
      refine wl_call1 rfl rfl rfl rfl rfl rfl (by kernel_rfl) (fun W hp => (number_gives z d hd hz1 hd1 W (ht.hp hp)).cast (by rw [hr])) ?_
      iterate 2 refine wl_pure Tryz.hT rfl rfl rfl ?_
      refine wl_nil ?_
      refine zE ?_
      refine zO ?_
      exact ne_ret2 Tryz.hT rfl (.tmp rfl) (.tmp rfl) () (if_pos ⟨hp, hq⟩).symm trivial fun W _ => NewBx.nil _ _
    · refine wl_call1 rfl rfl rfl rfl rfl rfl (by kernel_rfl) (fun W _ => (nativeOf_gives (numS q) hlq W).cast ((natOf_num q).trans (if_neg hq))) ?_
      iterate 3 refine wl_pure Tryz.hT rfl rfl rfl ?_
      (refine wl_allocZ Tryz.hZ rfl rfl rfl rfl ?_; intro)
      refine wl_storeBx 1 Tryz.hT rfl rfl rfl rfl rfl rfl rfl rfl rfl rfl rfl ?_
      refine wl_pure Tryz.hT rfl rfl rfl ?_
      refine wl_nil ?_
      refine zE ?_
      iterate 2 refine zA ?_
      refine zB ?_
      iterate 2 refine wl_pure Tryz.hT rfl rfl rfl ?_
      refine wl_nil ?_
      refine zE ?_
      refine zR rfl ?_
      refine zA ?_
      refine zB ?_
      iterate 2 refine wl_pure Tryz.hT rfl rfl rfl ?_
      refine wl_nil ?_
      refine zE ?_
      refine zO ?_
      refine zP ?_
      exact ne_ret2 Tryz.hT rfl (.tmp rfl) (.tmp rfl) () (if_neg fun h => hq h.2).symm trivial fun W _ => NewBx.nil _ _
  · refine wl_call1 rfl rfl rfl rfl rfl rfl (by kernel_rfl) (fun W _ => (nativeOf_gives (numS p) hlp W).cast ((natOf_num p).trans (if_neg hp))) ?_
    iterate 3 refine wl_pure Tryz.hT rfl rfl rfl ?_
    (refine wl_allocZ Tryz.hZ rfl rfl rfl rfl ?_; intro)
    refine wl_storeBx 0 Tryz.hT rfl rfl rfl rfl rfl rfl rfl rfl rfl rfl rfl ?_
    refine wl_pure Tryz.hT rfl rfl rfl ?_
    refine wl_nil ?_
    refine zE ?_
    iterate 2 refine zA ?_
    refine zB ?_
    iterate 2 refine wl_pure Tryz.hT rfl rfl rfl ?_
    refine wl_nil ?_
    refine zE ?_
    refine zR rfl ?_
    refine zA ?_
    refine zB ?_
    iterate 2 refine wl_pure Tryz.hT rfl rfl rfl ?_
    refine wl_nil ?_
    refine zE ?_
    refine zO ?_
    refine zP ?_
    exact ne_ret2 Tryz.hT rfl (.tmp rfl) (.tmp rfl) () (if_neg fun h => hp h.1).symm trivial fun W _ => NewBx.nil _ _
end Go.Proofs.YtddadjbflgdomaaGreatDoor
namespace Go.Proofs.YtddadjbflgdomaaGreatDoor
open Go Go.RowKit Go.Am Go.Lib
set_option maxRecDepth 10000
-- BOXES 4
abbrev prtV (q : Rat) : Value := parA (itoa q.num) (itoa (q.den : Nat))
/-- A number whose parts have at most 300 digits. -/
def okQ (q : Rat) : Prop := okN q.num ∧ okN (q.den : Nat)
theorem resV_N {z : Int} (h : okN z) : resV z = .tuple #[str (itoa z), .int .i64 0] := if_pos h
theorem rd_num {q : Rat} (h : okQ q) : rdV (numS q) = .tuple #[prtV q, .int .i64 0] := by
  have hd : q.den < ten300 := by have := h.2; unfold okN at this; rwa [Int.natAbs_natCast] at this
  have hf : frm (numS q) = some (q.num, q.den) := frm_parS q.num q.den_pos
  rw [rd_ok hf ⟨h.1, hd⟩ q.reduced, ← itoa_eq_dd']
theorem numS_len {q : Rat} (h : okQ q) : (numS q).length ≤ 1000 := by
  have h1 := itoa_len300 h.1
  have h2 := itoa_len300 h.2
  rw [itoa_eq_dd'] at h2
  unfold numS parS
  split
  · omega
  · rw [List.length_append, List.length_cons]; omega
set_option maxHeartbeats 4000000 in
theorem crossed_gives (p q : Rat) (hp : okQ p) (hq : okQ q) (h1 : okN (p.num * (q.den : Nat))) (h2 : okN (q.num * (p.den : Nat))) (W : World) (ht : TabP W) :
    CallsR Tryz.prog 43 #[prtV p, prtV q] W (fun _ : Unit => .tuple #[str (itoa (p.num * (q.den : Nat))), str (itoa (q.num * (p.den : Nat))), .int .i64 0]) (fun _ => True) (fun _ => []) := by
  refine calls_enter (args := [prtV p, prtV q]) Tryz.func43 rfl rfl rfl ?_
  repeat (first | refine zA ?_ | refine zB ?_ | refine zC ?_ | refine zD ?_ | refine zE ?_ | refine zF ?_ | refine zG ?_ | refine zH ?_ | refine zI ?_ | refine zJ ?_ | refine zK ?_ | refine zL ?_ | refine zM rfl ?_ | refine zN ?_ | refine zO ?_ | refine zP ?_ | refine zQ ?_ | refine zR rfl ?_ | refine zS rfl ?_ | refine zT Tryz.mixed (by kernel_rfl) ?_)
  (refine wl_box rfl rfl rfl rfl ?_; intro)
  (refine wl_box rfl rfl rfl rfl ?_; intro)
  iterate 3 refine wl_pure Tryz.hT rfl rfl rfl ?_
  refine wl_nil ?_
  repeat (first | refine zA ?_ | refine zB ?_ | refine zC ?_ | refine zD ?_ | refine zE ?_ | refine zF ?_ | refine zG ?_ | refine zH ?_ | refine zI ?_ | refine zJ ?_ | refine zK ?_ | refine zL ?_ | refine zM rfl ?_ | refine zN ?_ | refine zO ?_ | refine zP ?_ | refine zQ ?_ | refine zR rfl ?_ | refine zS rfl ?_ | refine zT Tryz.mixed (by kernel_rfl) ?_)
  refine wl_pure Tryz.hT rfl rfl rfl ?_
  (first | refine wl_loadBx 0 Tryz.hT rfl rfl rfl rfl rfl rfl rfl rfl ?_ | refine wl_loadBx 1 Tryz.hT rfl rfl rfl rfl rfl rfl rfl rfl ?_ | refine wl_loadBx 2 Tryz.hT rfl rfl rfl rfl rfl rfl rfl rfl ?_ | refine wl_loadBx 3 Tryz.hT rfl rfl rfl rfl rfl rfl rfl rfl ?_)
  refine wl_pure Tryz.hT rfl rfl rfl ?_
  (first | refine wl_loadBx 0 Tryz.hT rfl rfl rfl rfl rfl rfl rfl rfl ?_ | refine wl_loadBx 1 Tryz.hT rfl rfl rfl rfl rfl rfl rfl rfl ?_ | refine wl_loadBx 2 Tryz.hT rfl rfl rfl rfl rfl rfl rfl rfl ?_ | refine wl_loadBx 3 Tryz.hT rfl rfl rfl rfl rfl rfl rfl rfl ?_)
  refine wl_call1 rfl rfl rfl rfl rfl rfl (by kernel_rfl) (fun W h => (imul_gives p.num (q.den : Nat) hp.1 hq.2 W (ht.hp h)).cast (resV_N h1)) ?_
  iterate 5 refine wl_pure Tryz.hT rfl rfl rfl ?_
  refine wl_nil ?_
  repeat (first | refine zA ?_ | refine zB ?_ | refine zC ?_ | refine zD ?_ | refine zE ?_ | refine zF ?_ | refine zG ?_ | refine zH ?_ | refine zI ?_ | refine zJ ?_ | refine zK ?_ | refine zL ?_ | refine zM rfl ?_ | refine zN ?_ | refine zO ?_ | refine zP ?_ | refine zQ ?_ | refine zR rfl ?_ | refine zS rfl ?_ | refine zT Tryz.mixed (by kernel_rfl) ?_)
  iterate 2 refine wl_pure Tryz.hT rfl rfl rfl ?_
  refine wl_nil ?_
  repeat (first | refine zA ?_ | refine zB ?_ | refine zC ?_ | refine zD ?_ | refine zE ?_ | refine zF ?_ | refine zG ?_ | refine zH ?_ | refine zI ?_ | refine zJ ?_ | refine zK ?_ | refine zL ?_ | refine zM rfl ?_ | refine zN ?_ | refine zO ?_ | refine zP ?_ | refine zQ ?_ | refine zR rfl ?_ | refine zS rfl ?_ | refine zT Tryz.mixed (by kernel_rfl) ?_)
  refine wl_pure Tryz.hT rfl rfl rfl ?_
  (first | refine wl_loadBx 0 Tryz.hT rfl rfl rfl rfl rfl rfl rfl rfl ?_ | refine wl_loadBx 1 Tryz.hT rfl rfl rfl rfl rfl rfl rfl rfl ?_ | refine wl_loadBx 2 Tryz.hT rfl rfl rfl rfl rfl rfl rfl rfl ?_ | refine wl_loadBx 3 Tryz.hT rfl rfl rfl rfl rfl rfl rfl rfl ?_)
  refine wl_pure Tryz.hT rfl rfl rfl ?_
  (first | refine wl_loadBx 0 Tryz.hT rfl rfl rfl rfl rfl rfl rfl rfl ?_ | refine wl_loadBx 1 Tryz.hT rfl rfl rfl rfl rfl rfl rfl rfl ?_ | refine wl_loadBx 2 Tryz.hT rfl rfl rfl rfl rfl rfl rfl rfl ?_ | refine wl_loadBx 3 Tryz.hT rfl rfl rfl rfl rfl rfl rfl rfl ?_)
  refine wl_call1 rfl rfl rfl rfl rfl rfl (by kernel_rfl) (fun W h => (imul_gives q.num (p.den : Nat) hq.1 hp.2 W (ht.hp h)).cast (resV_N h2)) ?_
  iterate 5 refine wl_pure Tryz.hT rfl rfl rfl ?_
  refine wl_nil ?_
  repeat (first | refine zA ?_ | refine zB ?_ | refine zC ?_ | refine zD ?_ | refine zE ?_ | refine zF ?_ | refine zG ?_ | refine zH ?_ | refine zI ?_ | refine zJ ?_ | refine zK ?_ | refine zL ?_ | refine zM rfl ?_ | refine zN ?_ | refine zO ?_ | refine zP ?_ | refine zQ ?_ | refine zR rfl ?_ | refine zS rfl ?_ | refine zT Tryz.mixed (by kernel_rfl) ?_)
  iterate 6 refine wl_pure Tryz.hT rfl rfl rfl ?_
  refine wl_nil ?_
  repeat (first | refine zA ?_ | refine zB ?_ | refine zC ?_ | refine zD ?_ | refine zE ?_ | refine zF ?_ | refine zG ?_ | refine zH ?_ | refine zI ?_ | refine zJ ?_ | refine zK ?_ | refine zL ?_ | refine zM rfl ?_ | refine zN ?_ | refine zO ?_ | refine zP ?_ | refine zQ ?_ | refine zR rfl ?_ | refine zS rfl ?_ | refine zT Tryz.mixed (by kernel_rfl) ?_)
  exact ne_ret3 Tryz.hT rfl (.tmp rfl) (.tmp rfl) (.tmp rfl) () rfl trivial fun W _ => NewBx.nil _ _
set_option maxHeartbeats 4000000 in
theorem rboth_gives (p q : Rat) (v : List UInt8) (e : Int) (g : Nat) (capt : List Value) (hp : okQ p) (hq : okQ q) (W0 : World) (hv : MaxP W0) (ht : TabP W0) (hE : entersB Tryz.prog g = true)
    (hg : ∀ W, Below W0.heap.size W0 W → CallsR Tryz.prog g ([prtV p, prtV q] ++ capt).toArray W (fun _ : Unit => .tuple #[str v, .int .i64 e]) (fun _ => True) (fun _ => [])) :
    CallsR Tryz.prog 47 #[str (numS p), str (numS q), .func (.func g) #[] capt.toArray] W0 (fun _ : Unit => .tuple #[str v, .int .i64 e]) (fun _ => True) (fun _ => []) := by
  have hlp := numS_len hp
  have hlq := numS_len hq
  refine calls_enter (args := [str (numS p), str (numS q), .func (.func g) #[] capt.toArray]) Tryz.func47 rfl rfl rfl ?_
  repeat (first | refine zA ?_ | refine zB ?_ | refine zC ?_ | refine zD ?_ | refine zE ?_ | refine zF ?_ | refine zG ?_ | refine zH ?_ | refine zI ?_ | refine zJ ?_ | refine zK ?_ | refine zL ?_ | refine zM rfl ?_ | refine zN ?_ | refine zO ?_ | refine zP ?_ | refine zQ ?_ | refine zR rfl ?_ | refine zS rfl ?_ | refine zT Tryz.mixed (by kernel_rfl) ?_)
  iterate 2 refine wl_pure Tryz.hT rfl rfl rfl ?_
  refine wl_nil ?_
  repeat (first | refine zA ?_ | refine zB ?_ | refine zC ?_ | refine zD ?_ | refine zE ?_ | refine zF ?_ | refine zG ?_ | refine zH ?_ | refine zI ?_ | refine zJ ?_ | refine zK ?_ | refine zL ?_ | refine zM rfl ?_ | refine zN ?_ | refine zO ?_ | refine zP ?_ | refine zQ ?_ | refine zR rfl ?_ | refine zS rfl ?_ | refine zT Tryz.mixed (by kernel_rfl) ?_)
  refine wl_pure Tryz.hT rfl rfl rfl ?_
  refine wl_call1 rfl rfl rfl rfl rfl rfl (by kernel_rfl) (fun W h => (rread_gives (numS p) (by omega) W (hv.hp h) (ht.hp h)).cast (rd_num hp)) ?_
  iterate 3 refine wl_pure Tryz.hT rfl rfl rfl ?_
  (refine wl_allocZ Tryz.hZ rfl rfl rfl rfl ?_; intro)
  (first | refine wl_storeBx 0 Tryz.hT rfl rfl rfl rfl rfl rfl rfl rfl rfl rfl rfl ?_ | refine wl_storeBx 1 Tryz.hT rfl rfl rfl rfl rfl rfl rfl rfl rfl rfl rfl ?_ | refine wl_storeBx 2 Tryz.hT rfl rfl rfl rfl rfl rfl rfl rfl rfl rfl rfl ?_ | refine wl_storeBx 3 Tryz.hT rfl rfl rfl rfl rfl rfl rfl rfl rfl rfl rfl ?_)
  refine wl_pure Tryz.hT rfl rfl rfl ?_
  refine wl_nil ?_
  rename_i b8
  repeat (first | refine zA ?_ | refine zB ?_ | refine zC ?_ | refine zD ?_ | refine zE ?_ | refine zF ?_ | refine zG ?_ | refine zH ?_ | refine zI ?_ | refine zJ ?_ | refine zK ?_ | refine zL ?_ | refine zM rfl ?_ | refine zN ?_ | refine zO ?_ | refine zP ?_ | refine zQ ?_ | refine zR rfl ?_ | refine zS rfl ?_ | refine zT Tryz.mixed (by kernel_rfl) ?_)
  iterate 2 refine wl_pure Tryz.hT rfl rfl rfl ?_
  refine wl_nil ?_
  repeat (first | refine zA ?_ | refine zB ?_ | refine zC ?_ | refine zD ?_ | refine zE ?_ | refine zF ?_ | refine zG ?_ | refine zH ?_ | refine zI ?_ | refine zJ ?_ | refine zK ?_ | refine zL ?_ | refine zM rfl ?_ | refine zN ?_ | refine zO ?_ | refine zP ?_ | refine zQ ?_ | refine zR rfl ?_ | refine zS rfl ?_ | refine zT Tryz.mixed (by kernel_rfl) ?_)
  refine wl_pure Tryz.hT rfl rfl rfl ?_
  refine wl_call1 rfl rfl rfl rfl rfl rfl (by kernel_rfl) (fun W h => (rread_gives (numS q) (by omega) W (hv.hp h) (ht.hp h)).cast (rd_num hq)) ?_
  iterate 3 refine wl_pure Tryz.hT rfl rfl rfl ?_
  (refine wl_allocZ Tryz.hZ rfl rfl rfl rfl ?_; intro)
  (first | refine wl_storeBx 0 Tryz.hT rfl rfl rfl rfl rfl rfl rfl rfl rfl rfl rfl ?_ | refine wl_storeBx 1 Tryz.hT rfl rfl rfl rfl rfl rfl rfl rfl rfl rfl rfl ?_ | refine wl_storeBx 2 Tryz.hT rfl rfl rfl rfl rfl rfl rfl rfl rfl rfl rfl ?_ | refine wl_storeBx 3 Tryz.hT rfl rfl rfl rfl rfl rfl rfl rfl rfl rfl rfl ?_)
  refine wl_pure Tryz.hT rfl rfl rfl ?_
  refine wl_nil ?_
  rename_i b10
  repeat (first | refine zA ?_ | refine zB ?_ | refine zC ?_ | refine zD ?_ | refine zE ?_ | refine zF ?_ | refine zG ?_ | refine zH ?_ | refine zI ?_ | refine zJ ?_ | refine zK ?_ | refine zL ?_ | refine zM rfl ?_ | refine zN ?_ | refine zO ?_ | refine zP ?_ | refine zQ ?_ | refine zR rfl ?_ | refine zS rfl ?_ | refine zT Tryz.mixed (by kernel_rfl) ?_)
  iterate 2 refine wl_pure Tryz.hT rfl rfl rfl ?_
  refine wl_nil ?_
  repeat (first | refine zA ?_ | refine zB ?_ | refine zC ?_ | refine zD ?_ | refine zE ?_ | refine zF ?_ | refine zG ?_ | refine zH ?_ | refine zI ?_ | refine zJ ?_ | refine zK ?_ | refine zL ?_ | refine zM rfl ?_ | refine zN ?_ | refine zO ?_ | refine zP ?_ | refine zQ ?_ | refine zR rfl ?_ | refine zS rfl ?_ | refine zT Tryz.mixed (by kernel_rfl) ?_)
  refine wl_pure Tryz.hT rfl rfl rfl ?_
  (first | refine wl_loadBx 0 Tryz.hT rfl rfl rfl rfl rfl rfl rfl rfl ?_ | refine wl_loadBx 1 Tryz.hT rfl rfl rfl rfl rfl rfl rfl rfl ?_ | refine wl_loadBx 2 Tryz.hT rfl rfl rfl rfl rfl rfl rfl rfl ?_ | refine wl_loadBx 3 Tryz.hT rfl rfl rfl rfl rfl rfl rfl rfl ?_)
  (first | refine wl_loadBx 0 Tryz.hT rfl rfl rfl rfl rfl rfl rfl rfl ?_ | refine wl_loadBx 1 Tryz.hT rfl rfl rfl rfl rfl rfl rfl rfl ?_ | refine wl_loadBx 2 Tryz.hT rfl rfl rfl rfl rfl rfl rfl rfl ?_ | refine wl_loadBx 3 Tryz.hT rfl rfl rfl rfl rfl rfl rfl rfl ?_)
  refine wl_call1 (capt := capt) rfl rfl rfl rfl rfl rfl hE (fun W h => hg W h.below) ?_
  iterate 4 refine wl_pure Tryz.hT rfl rfl rfl ?_
  refine wl_nil ?_
  repeat (first | refine zA ?_ | refine zB ?_ | refine zC ?_ | refine zD ?_ | refine zE ?_ | refine zF ?_ | refine zG ?_ | refine zH ?_ | refine zI ?_ | refine zJ ?_ | refine zK ?_ | refine zL ?_ | refine zM rfl ?_ | refine zN ?_ | refine zO ?_ | refine zP ?_ | refine zQ ?_ | refine zR rfl ?_ | refine zS rfl ?_ | refine zT Tryz.mixed (by kernel_rfl) ?_)
  exact ne_ret2 Tryz.hT rfl (.tmp rfl) (.tmp rfl) () rfl trivial fun W _ => NewBx.nil _ _
end Go.Proofs.YtddadjbflgdomaaGreatDoor
namespace Go.Proofs.YtddadjbflgdomaaGreatDoor
open Go Go.Lib
abbrev nrm (z d : Int) : Rat := mkRat (if d < 0 then -z else z) d.natAbs
theorem nrm_div (z : Int) {d : Int} (hd : d ≠ 0) : nrm z d = Rat.divInt z d := by
  unfold nrm
  cases d with
  | ofNat n =>
    rw [if_neg (by intro h; exact absurd h (by simp))]
    rfl
  | negSucc n =>
    rw [if_pos (Int.negSucc_lt_zero n)]
    show mkRat (-z) (n + 1) = _
    rw [Rat.divInt]
    rw [Rat.normalize_eq_mkRat]
theorem rat_add (p q : Rat) : nrm (p.num * (q.den : Nat) + q.num * (p.den : Nat)) ((p.den : Nat) * (q.den : Nat)) = p + q := by
  have h1 : ((p.den : Nat) : Int) ≠ 0 := by have := p.den_nz; omega
  have h2 : ((q.den : Nat) : Int) ≠ 0 := by have := q.den_nz; omega
  rw [nrm_div _ (Int.mul_ne_zero h1 h2)]
  rw [← Rat.divInt_add_divInt _ _ h1 h2, Rat.num_divInt_den, Rat.num_divInt_den]
theorem rat_sub (p q : Rat) : nrm (p.num * (q.den : Nat) - q.num * (p.den : Nat)) ((p.den : Nat) * (q.den : Nat)) = p - q := by
  have h1 : ((p.den : Nat) : Int) ≠ 0 := by have := p.den_nz; omega
  have h2 : ((q.den : Nat) : Int) ≠ 0 := by have := q.den_nz; omega
  rw [nrm_div _ (Int.mul_ne_zero h1 h2)]
  rw [← Rat.divInt_sub_divInt _ _ h1 h2, Rat.num_divInt_den, Rat.num_divInt_den]
theorem rat_mul (p q : Rat) : nrm (p.num * q.num) ((p.den : Nat) * (q.den : Nat)) = p * q := by
  have h1 : ((p.den : Nat) : Int) ≠ 0 := by have := p.den_nz; omega
  have h2 : ((q.den : Nat) : Int) ≠ 0 := by have := q.den_nz; omega
  rw [nrm_div _ (Int.mul_ne_zero h1 h2)]
  rw [← Rat.divInt_mul_divInt, Rat.num_divInt_den, Rat.num_divInt_den]
theorem rat_div (p q : Rat) (hq : q.num ≠ 0) : nrm (p.num * (q.den : Nat)) ((p.den : Nat) * q.num) = p / q := by
  have h1 : ((p.den : Nat) : Int) ≠ 0 := by have := p.den_nz; omega
  rw [nrm_div _ (Int.mul_ne_zero h1 hq)]
  rw [← Rat.divInt_mul_divInt, Rat.num_divInt_den, Rat.div_def, Rat.inv_def]
/-- How long a number's parts are. -/
def szQ (q : Rat) (k : Nat) : Prop := q.num.natAbs < 10 ^ k ∧ q.den < 10 ^ k
theorem nrm_num (z : Int) {d : Int} (hd : d ≠ 0) {k : Nat} (hz : z.natAbs < 10 ^ k) (hd2 : d.natAbs < 10 ^ k) : szQ (nrm z d) k := by
  have h0 : d.natAbs ≠ 0 := by omega
  have hx : (if d < 0 then -z else z).natAbs = z.natAbs := by split; rw [Int.natAbs_neg]; rfl
  unfold nrm
  rw [mkRat, dif_neg h0, Rat.normalize_eq]
  constructor
  · show ((if d < 0 then -z else z) / _).natAbs < _
    refine Nat.lt_of_le_of_lt ?_ hz
    rw [← hx]
    exact Int.natAbs_ediv_le_natAbs ..
  · exact Nat.lt_of_le_of_lt (Nat.div_le_self ..) hd2
end Go.Proofs.YtddadjbflgdomaaGreatDoor
namespace Go.Proofs.YtddadjbflgdomaaGreatDoor
open Go Go.RowKit Go.Am Go.Lib
set_option maxRecDepth 10000
-- BOXES 4
theorem combined_gives (h : Nat) (W : World) : CallsR Tryz.prog 52 #[.func (.func h) #[] #[]] W (fun b : Nat => .func (.func 96) #[] #[selfP b]) (fun _ => True) (fun b => [⟨b, 94, [.func (.func h) #[] #[]], true, none⟩]) := by
  refine calls_enter (args := [.func (.func h) #[] #[]]) Tryz.func52 rfl rfl rfl ?_
  refine zA ?_
  refine zB ?_
  refine wl_box rfl rfl rfl rfl ?_; intro b
  refine wl_pure Tryz.hT rfl rfl rfl ?_
  refine wl_nil ?_
  refine zE ?_
  refine zA ?_
  refine zB ?_
  iterate 2 refine wl_pure Tryz.hT rfl rfl rfl ?_
  refine wl_nil ?_
  refine zE ?_
  refine zO ?_
  exact ne_ret1 Tryz.hT rfl (.tmp rfl) b rfl trivial fun W hp => NewBx.of_hp hp
theorem okN_den {p q : Rat} : ((p.den : Nat) : Int) * (q.den : Nat) ≠ 0 := Int.mul_ne_zero (by have := p.den_nz; omega) (by have := q.den_nz; omega)
set_option maxHeartbeats 8000000 in
theorem combC_gives (p q : Rat) (b h : Nat) (z : Int) (hp : okQ p) (hq : okQ q) (h1 : okN (p.num * (q.den : Nat))) (h2 : okN (q.num * (p.den : Nat))) (hz : okN z) (hd : okN ((p.den : Nat) * (q.den : Nat))) (hE : entersB Tryz.prog h = true)
    (hop : ∀ W, TabP W → CallsR Tryz.prog h #[str (itoa (p.num * (q.den : Nat))), str (itoa (q.num * (p.den : Nat)))] W (fun _ : Unit => .tuple #[str (itoa z), .int .i64 0]) (fun _ => True) (fun _ => [])) (W : World) (ht : TabP W) (hrow : RowAt W b 0 [.func (.func h) #[] #[]]) :
    CallsR Tryz.prog 96 #[prtV p, prtV q, selfP b] W (fun _ : Unit => .tuple #[str (numS (nrm z ((p.den : Nat) * (q.den : Nat)))), .int .i64 0]) (fun _ => True) (fun _ => []) := by
  refine calls_enter (args := [prtV p, prtV q, selfP b]) Tryz.func96 rfl rfl rfl ?_
  refine zA ?_
  refine zB ?_
  (refine wl_box rfl rfl rfl rfl ?_; intro)
  (refine wl_box rfl rfl rfl rfl ?_; intro)
  iterate 2 refine wl_pure Tryz.hT rfl rfl rfl ?_
  refine wl_nil ?_
  refine zE ?_
  refine zA ?_
  refine zB ?_
  refine wl_loadBx 0 Tryz.hT rfl rfl rfl rfl rfl rfl rfl rfl ?_
  refine wl_loadBx 1 Tryz.hT rfl rfl rfl rfl rfl rfl rfl rfl ?_
  refine wl_call1 rfl rfl rfl rfl rfl rfl (by kernel_rfl) (fun W h => crossed_gives p q hp hq h1 h2 W (ht.hp h)) ?_
  iterate 7 refine wl_pure Tryz.hT rfl rfl rfl ?_
  refine wl_nil ?_
  refine zE ?_
  iterate 2 refine zA ?_
  refine zB ?_
  iterate 2 refine wl_pure Tryz.hT rfl rfl rfl ?_
  refine wl_nil ?_
  refine zE ?_
  refine zS rfl ?_
  refine zI ?_
  refine zE ?_
  refine zA ?_
  refine zB ?_
  refine wl_load rfl rfl rfl rfl (fun W hp => RowAt.load 0 Tryz.hT rfl ((fun W h => hrow.hp h) W hp) rfl) ?_
  iterate 2 refine wl_pure Tryz.hT rfl rfl rfl ?_
  refine wl_call1 (capt := []) rfl rfl rfl rfl rfl rfl hE (fun W h => hop W (ht.hp h)) ?_
  iterate 5 refine wl_pure Tryz.hT rfl rfl rfl ?_
  refine wl_nil ?_
  refine zE ?_
  iterate 2 refine zA ?_
  refine zB ?_
  iterate 2 refine wl_pure Tryz.hT rfl rfl rfl ?_
  refine wl_nil ?_
  refine zE ?_
  refine zS rfl ?_
  refine zI ?_
  refine zE ?_
  refine zA ?_
  refine zB ?_
  refine wl_pure Tryz.hT rfl rfl rfl ?_
  refine wl_loadBx 0 Tryz.hT rfl rfl rfl rfl rfl rfl rfl rfl ?_
  refine wl_pure Tryz.hT rfl rfl rfl ?_
  refine wl_loadBx 1 Tryz.hT rfl rfl rfl rfl rfl rfl rfl rfl ?_
  refine wl_call1 rfl rfl rfl rfl rfl rfl (by kernel_rfl) (fun W h => (imul_gives (p.den : Nat) (q.den : Nat) hp.2 hq.2 W (ht.hp h)).cast (resV_N hd)) ?_
  iterate 5 refine wl_pure Tryz.hT rfl rfl rfl ?_
  refine wl_nil ?_
  refine zE ?_
  iterate 2 refine zA ?_
  refine zB ?_
  iterate 2 refine wl_pure Tryz.hT rfl rfl rfl ?_
  refine wl_nil ?_
  refine zE ?_
  refine zS rfl ?_
  refine zI ?_
  refine zE ?_
  refine zA ?_
  refine zB ?_
  iterate 2 refine wl_pure Tryz.hT rfl rfl rfl ?_
  refine wl_call1 rfl rfl rfl rfl rfl rfl (by kernel_rfl) (fun W h => ratNumber_gives z ((p.den : Nat) * (q.den : Nat)) okN_den hz hd W (ht.hp h)) ?_
  iterate 4 refine wl_pure Tryz.hT rfl rfl rfl ?_
  refine wl_nil ?_
  refine zE ?_
  refine zO ?_
  exact ne_ret2 Tryz.hT rfl (.tmp rfl) (.tmp rfl) () rfl trivial fun W _ => NewBx.nil _ _
set_option maxHeartbeats 8000000 in
theorem mul2_gives (p q : Rat) (hp : okQ p) (hq : okQ q) (hz : okN (p.num * q.num)) (hd : okN ((p.den : Nat) * (q.den : Nat))) (W : World) (ht : TabP W) :
    CallsR Tryz.prog 48 #[prtV p, prtV q] W (fun _ : Unit => .tuple #[str (numS (p * q)), .int .i64 0]) (fun _ => True) (fun _ => []) := by
  refine calls_enter (args := [prtV p, prtV q]) Tryz.func48 rfl rfl rfl ?_
  refine zA ?_
  refine zB ?_
  (refine wl_box rfl rfl rfl rfl ?_; intro)
  (refine wl_box rfl rfl rfl rfl ?_; intro)
  iterate 2 refine wl_pure Tryz.hT rfl rfl rfl ?_
  refine wl_nil ?_
  refine zE ?_
  refine zA ?_
  refine zB ?_
  refine wl_pure Tryz.hT rfl rfl rfl ?_
  refine wl_loadBx 0 Tryz.hT rfl rfl rfl rfl rfl rfl rfl rfl ?_
  refine wl_pure Tryz.hT rfl rfl rfl ?_
  refine wl_loadBx 1 Tryz.hT rfl rfl rfl rfl rfl rfl rfl rfl ?_
  refine wl_call1 rfl rfl rfl rfl rfl rfl (by kernel_rfl) (fun W h => (imul_gives p.num q.num hp.1 hq.1 W (ht.hp h)).cast (resV_N hz)) ?_
  iterate 5 refine wl_pure Tryz.hT rfl rfl rfl ?_
  refine wl_nil ?_
  refine zE ?_
  iterate 2 refine zA ?_
  refine zB ?_
  iterate 2 refine wl_pure Tryz.hT rfl rfl rfl ?_
  refine wl_nil ?_
  refine zE ?_
  refine zS rfl ?_
  refine zI ?_
  refine zE ?_
  refine zA ?_
  refine zB ?_
  refine wl_pure Tryz.hT rfl rfl rfl ?_
  refine wl_loadBx 0 Tryz.hT rfl rfl rfl rfl rfl rfl rfl rfl ?_
  refine wl_pure Tryz.hT rfl rfl rfl ?_
  refine wl_loadBx 1 Tryz.hT rfl rfl rfl rfl rfl rfl rfl rfl ?_
  refine wl_call1 rfl rfl rfl rfl rfl rfl (by kernel_rfl) (fun W h => (imul_gives (p.den : Nat) (q.den : Nat) hp.2 hq.2 W (ht.hp h)).cast (resV_N hd)) ?_
  iterate 5 refine wl_pure Tryz.hT rfl rfl rfl ?_
  refine wl_nil ?_
  refine zE ?_
  iterate 2 refine zA ?_
  refine zB ?_
  iterate 2 refine wl_pure Tryz.hT rfl rfl rfl ?_
  refine wl_nil ?_
  refine zE ?_
  refine zS rfl ?_
  refine zI ?_
  refine zE ?_
  refine zA ?_
  refine zB ?_
  iterate 2 refine wl_pure Tryz.hT rfl rfl rfl ?_
  refine wl_call1 rfl rfl rfl rfl rfl rfl (by kernel_rfl) (fun W h => (ratNumber_gives (p.num * q.num) ((p.den : Nat) * (q.den : Nat)) okN_den hz hd W (ht.hp h)).cast (congrArg (fun r => Value.tuple #[str (numS r), .int .i64 0]) (rat_mul p q))) ?_
  iterate 4 refine wl_pure Tryz.hT rfl rfl rfl ?_
  refine wl_nil ?_
  refine zE ?_
  refine zO ?_
  exact ne_ret2 Tryz.hT rfl (.tmp rfl) (.tmp rfl) () rfl trivial fun W _ => NewBx.nil _ _
/-- What Div gives at 0 is error 12. -/
def divR (p q : Rat) : List UInt8 × Int := if q.num = 0 then ([], 12) else (numS (p / q), 0)
theorem rat_div' (p q : Rat) (hq : q.num ≠ 0) : nrm (p.num * (q.den : Nat)) (q.num * (p.den : Nat)) = p / q := by rw [Int.mul_comm q.num, rat_div p q hq]
set_option maxHeartbeats 8000000 in
theorem div2_gives (p q : Rat) (hp : okQ p) (hq : okQ q) (h1 : okN (p.num * (q.den : Nat))) (h2 : okN (q.num * (p.den : Nat))) (W : World) (ht : TabP W) :
    CallsR Tryz.prog 132 #[prtV p, prtV q] W (fun _ : Unit => .tuple #[str (divR p q).1, .int .i64 (divR p q).2]) (fun _ => True) (fun _ => []) := by
  refine calls_enter (args := [prtV p, prtV q]) Tryz.func132 rfl rfl rfl ?_
  refine zA ?_
  refine zB ?_
  (refine wl_box rfl rfl rfl rfl ?_; intro)
  (refine wl_box rfl rfl rfl rfl ?_; intro)
  iterate 2 refine wl_pure Tryz.hT rfl rfl rfl ?_
  refine wl_nil ?_
  refine zE ?_
  iterate 2 refine zA ?_
  refine zB ?_
  refine wl_pure Tryz.hT rfl rfl rfl ?_
  refine wl_loadBx 1 Tryz.hT rfl rfl rfl rfl rfl rfl rfl rfl ?_
  refine wl_pure Tryz.hT rfl rfl rfl ?_
  by_cases h0 : q.num = 0
  · refine wl_upd 11 (.bool true) rfl (congrArg Value.bool ((strEqB _ [48]).trans (decide_eq_true (itoa_0.2 h0)))) ?_
    refine wl_nil ?_
    refine zE ?_
    refine zR rfl ?_
    refine zA ?_
    refine zB ?_
    iterate 2 refine wl_pure Tryz.hT rfl rfl rfl ?_
    refine wl_nil ?_
    refine zE ?_
    refine zO ?_
    refine zP ?_
    exact ne_ret2 Tryz.hT rfl (.tmp rfl) (.tmp rfl) () (by rw [divR, if_pos h0]) trivial fun W _ => NewBx.nil _ _
  · refine wl_upd 11 (.bool false) rfl (congrArg Value.bool ((strEqB _ [48]).trans (decide_eq_false fun e => h0 (itoa_0.1 e)))) ?_
    refine wl_nil ?_
    refine zE ?_
    refine zS rfl ?_
    refine zI ?_
    refine zE ?_
    refine zA ?_
    refine zB ?_
    refine wl_loadBx 0 Tryz.hT rfl rfl rfl rfl rfl rfl rfl rfl ?_
    refine wl_loadBx 1 Tryz.hT rfl rfl rfl rfl rfl rfl rfl rfl ?_
    refine wl_call1 rfl rfl rfl rfl rfl rfl (by kernel_rfl) (fun W h => crossed_gives p q hp hq h1 h2 W (ht.hp h)) ?_
    iterate 7 refine wl_pure Tryz.hT rfl rfl rfl ?_
    refine wl_nil ?_
    refine zE ?_
    iterate 2 refine zA ?_
    refine zB ?_
    iterate 2 refine wl_pure Tryz.hT rfl rfl rfl ?_
    refine wl_nil ?_
    refine zE ?_
    refine zS rfl ?_
    refine zI ?_
    refine zE ?_
    refine zA ?_
    refine zB ?_
    iterate 2 refine wl_pure Tryz.hT rfl rfl rfl ?_
    refine wl_call1 rfl rfl rfl rfl rfl rfl (by kernel_rfl) (fun W h => (ratNumber_gives (p.num * (q.den : Nat)) (q.num * (p.den : Nat)) (Int.mul_ne_zero h0 (by have := p.den_nz; omega)) h1 h2 W (ht.hp h)).cast (congrArg (fun r => Value.tuple #[str (numS r), .int .i64 0]) (rat_div' p q h0))) ?_
    iterate 4 refine wl_pure Tryz.hT rfl rfl rfl ?_
    refine wl_nil ?_
    refine zE ?_
    refine zO ?_
    exact ne_ret2 Tryz.hT rfl (.tmp rfl) (.tmp rfl) () (by rw [divR, if_neg h0]) trivial fun W _ => NewBx.nil _ _
end Go.Proofs.YtddadjbflgdomaaGreatDoor
namespace Go.Proofs.YtddadjbflgdomaaGreatDoor
open Go Go.RowKit Go.Am Go.Lib
set_option maxRecDepth 10000
-- BOXES 4
theorem okN_pow {z : Int} {k : Nat} (h : z.natAbs < 10 ^ k) (hk : k ≤ 300) : okN z := Nat.lt_of_lt_of_le h (Nat.pow_le_pow_right (by decide) (show k ≤ mxd from hk))
theorem szQ.ok {q : Rat} {k : Nat} (h : szQ q k) (hk : k ≤ 300) : okQ q := ⟨okN_pow h.1 hk, okN_pow (k := k) (by rw [Int.natAbs_natCast]; exact h.2) hk⟩
theorem szQ.mono {q : Rat} {k m : Nat} (h : szQ q k) (hk : k ≤ m) : szQ q m := ⟨Nat.lt_of_lt_of_le h.1 (Nat.pow_le_pow_right (by decide) hk), Nat.lt_of_lt_of_le h.2 (Nat.pow_le_pow_right (by decide) hk)⟩
theorem imul_pow {x y : Int} {a b : Nat} (hx : x.natAbs < 10 ^ a) (hy : y.natAbs < 10 ^ b) : (x * y).natAbs < 10 ^ (a + b) := by
  rw [Int.natAbs_mul]; exact mul_pow hx hy (Nat.le_refl _)
theorem iadd_pow {x y : Int} {a : Nat} (hx : x.natAbs < 10 ^ a) (hy : y.natAbs < 10 ^ a) : (x + y).natAbs < 10 ^ (a + 1) := by
  rw [Nat.pow_succ]; omega
theorem isub_pow {x y : Int} {a : Nat} (hx : x.natAbs < 10 ^ a) (hy : y.natAbs < 10 ^ a) : (x - y).natAbs < 10 ^ (a + 1) := by
  rw [Nat.pow_succ]; omega
/-- What two numbers' sizes give. -/
structure Sz2 (p q : Rat) : Prop where
  okp : okQ p
  okq : okQ q
  c1 : okN (p.num * (q.den : Nat))
  c2 : okN (q.num * (p.den : Nat))
  d : okN ((p.den : Nat) * (q.den : Nat))
  n : okN (p.num * q.num)
  add : okN (p.num * (q.den : Nat) + q.num * (p.den : Nat))
  sub : okN (p.num * (q.den : Nat) - q.num * (p.den : Nat))
theorem sz2 {p q : Rat} {a b : Nat} (hp : szQ p a) (hq : szQ q b) (hk : a + b + 1 ≤ 300) : Sz2 p q := by
  have hqd : ((q.den : Nat) : Int).natAbs < 10 ^ b := by rw [Int.natAbs_natCast]; exact hq.2
  have hpd : ((p.den : Nat) : Int).natAbs < 10 ^ a := by rw [Int.natAbs_natCast]; exact hp.2
  have e1 := imul_pow hp.1 hqd
  have e2 := imul_pow hq.1 hpd
  rw [Nat.add_comm b a] at e2
  exact ⟨hp.ok (by omega), hq.ok (by omega), okN_pow e1 (by omega), okN_pow e2 (by omega), okN_pow (imul_pow hpd hqd) (by omega), okN_pow (imul_pow hp.1 hq.1) (by omega), okN_pow (iadd_pow e1 e2) hk, okN_pow (isub_pow e1 e2) hk⟩
theorem szQ.add {p q : Rat} {a b : Nat} (hp : szQ p a) (hq : szQ q b) : szQ (p + q) (a + b + 1) := by
  have hqd : ((q.den : Nat) : Int).natAbs < 10 ^ b := by rw [Int.natAbs_natCast]; exact hq.2
  have hpd : ((p.den : Nat) : Int).natAbs < 10 ^ a := by rw [Int.natAbs_natCast]; exact hp.2
  have e1 := imul_pow hp.1 hqd
  have e2 := imul_pow hq.1 hpd
  rw [Nat.add_comm b a] at e2
  rw [← rat_add]
  exact nrm_num _ okN_den (iadd_pow e1 e2) (Nat.lt_of_lt_of_le (imul_pow hpd hqd) (Nat.pow_le_pow_right (by decide) (by omega)))
theorem szQ.sub {p q : Rat} {a b : Nat} (hp : szQ p a) (hq : szQ q b) : szQ (p - q) (a + b + 1) := by
  have hqd : ((q.den : Nat) : Int).natAbs < 10 ^ b := by rw [Int.natAbs_natCast]; exact hq.2
  have hpd : ((p.den : Nat) : Int).natAbs < 10 ^ a := by rw [Int.natAbs_natCast]; exact hp.2
  have e1 := imul_pow hp.1 hqd
  have e2 := imul_pow hq.1 hpd
  rw [Nat.add_comm b a] at e2
  rw [← rat_sub]
  exact nrm_num _ okN_den (isub_pow e1 e2) (Nat.lt_of_lt_of_le (imul_pow hpd hqd) (Nat.pow_le_pow_right (by decide) (by omega)))
theorem szQ.mul {p q : Rat} {a b : Nat} (hp : szQ p a) (hq : szQ q b) : szQ (p * q) (a + b) := by
  have hqd : ((q.den : Nat) : Int).natAbs < 10 ^ b := by rw [Int.natAbs_natCast]; exact hq.2
  have hpd : ((p.den : Nat) : Int).natAbs < 10 ^ a := by rw [Int.natAbs_natCast]; exact hp.2
  rw [← rat_mul]
  exact nrm_num _ okN_den (imul_pow hp.1 hq.1) (imul_pow hpd hqd)
theorem szQ.div {p q : Rat} {a b : Nat} (hp : szQ p a) (hq : szQ q b) (h0 : q.num ≠ 0) : szQ (p / q) (a + b) := by
  have hqd : ((q.den : Nat) : Int).natAbs < 10 ^ b := by rw [Int.natAbs_natCast]; exact hq.2
  have hpd : ((p.den : Nat) : Int).natAbs < 10 ^ a := by rw [Int.natAbs_natCast]; exact hp.2
  rw [← rat_div p q h0]
  exact nrm_num _ (Int.mul_ne_zero (by have := p.den_nz; omega) h0) (imul_pow hp.1 hqd) (imul_pow hpd hq.1)
theorem TabP.below {W0 W : World} (h : TabP W0) (hb : Below W0.heap.size W0 W) : TabP W := tabBelow_of_tabIs h W hb
theorem sm_d (p : Rat) (h : smQ p) : ((p.den : Nat) : Int).natAbs < 100000000 := by rw [Int.natAbs_natCast]; exact h.2
set_option maxHeartbeats 8000000 in
theorem radd_gives (p q : Rat) (h : Sz2 p q) (W0 : World) (hv : MaxP W0) (ht : TabP W0) :
    CallsR Tryz.prog 21 #[str (numS p), str (numS q)] W0 (fun _ : Unit => .tuple #[str (numS (p + q)), .int .i64 0]) (fun _ => True) (fun _ => []) := by
  have hlp := numS_len h.okp
  have hlq := numS_len h.okq
  refine calls_enter (args := [str (numS p), str (numS q)]) Tryz.func21 rfl rfl rfl ?_
  repeat (first | refine zA ?_ | refine zB ?_ | refine zC ?_ | refine zD ?_ | refine zE ?_ | refine zF ?_ | refine zG ?_ | refine zH ?_ | refine zI ?_ | refine zJ ?_ | refine zK ?_ | refine zL ?_ | refine zM rfl ?_ | refine zN ?_ | refine zO ?_ | refine zP ?_ | refine zQ ?_ | refine zR rfl ?_ | refine zS rfl ?_ | refine zT Tryz.mixed (by kernel_rfl) ?_)
  iterate 2 refine wl_pure Tryz.hT rfl rfl rfl ?_
  refine wl_nil ?_
  repeat (first | refine zA ?_ | refine zB ?_ | refine zC ?_ | refine zD ?_ | refine zE ?_ | refine zF ?_ | refine zG ?_ | refine zH ?_ | refine zI ?_ | refine zJ ?_ | refine zK ?_ | refine zL ?_ | refine zM rfl ?_ | refine zN ?_ | refine zO ?_ | refine zP ?_ | refine zQ ?_ | refine zR rfl ?_ | refine zS rfl ?_ | refine zT Tryz.mixed (by kernel_rfl) ?_)
  iterate 2 refine wl_pure Tryz.hT rfl rfl rfl ?_
  have hquick : ∀ W, TabP W → CallsR Tryz.prog 45 #[str (numS p), str (numS q), .func (.func 54) #[] #[]] W (fun _ : Unit => if smQ p ∧ smQ q then .tuple #[str (numS (p + q)), .bool true] else .tuple #[str [], .bool false]) (fun _ => True) (fun _ => []) :=
    fun W ht => quick_gives p q (p + q) (p.num * (q.den : Nat) + q.num * (p.den : Nat)) ((p.den : Nat) * (q.den : Nat)) _ (by kernel_rfl) (by omega) (by omega) (fun hp hq => by
      have m1 := mul_8 hp.1 (sm_d q hq)
      have m2 := mul_8 hq.1 (sm_d p hp)
      have m3 := mul_8 (sm_d p hp) (sm_d q hq)
      exact ⟨addC_gives _ _ _ _ hp.1 (sm_d p hp) hq.1 (sm_d q hq), okN_den, by omega, by omega, rat_add p q⟩) W ht
  by_cases hs : smQ p ∧ smQ q
  · refine wl_call1 rfl rfl rfl rfl rfl rfl (by kernel_rfl) (fun W h => (hquick W (ht.hp h)).cast (if_pos hs)) ?_
    iterate 5 refine wl_pure Tryz.hT rfl rfl rfl ?_
    refine wl_nil ?_
    repeat (first | refine zA ?_ | refine zB ?_ | refine zC ?_ | refine zD ?_ | refine zE ?_ | refine zF ?_ | refine zG ?_ | refine zH ?_ | refine zI ?_ | refine zJ ?_ | refine zK ?_ | refine zL ?_ | refine zM rfl ?_ | refine zN ?_ | refine zO ?_ | refine zP ?_ | refine zQ ?_ | refine zR rfl ?_ | refine zS rfl ?_ | refine zT Tryz.mixed (by kernel_rfl) ?_)
    refine wl_pure Tryz.hT rfl rfl rfl ?_
    refine wl_nil ?_
    repeat (first | refine zA ?_ | refine zB ?_ | refine zC ?_ | refine zD ?_ | refine zE ?_ | refine zF ?_ | refine zG ?_ | refine zH ?_ | refine zI ?_ | refine zJ ?_ | refine zK ?_ | refine zL ?_ | refine zM rfl ?_ | refine zN ?_ | refine zO ?_ | refine zP ?_ | refine zQ ?_ | refine zR rfl ?_ | refine zS rfl ?_ | refine zT Tryz.mixed (by kernel_rfl) ?_)
    iterate 3 refine wl_pure Tryz.hT rfl rfl rfl ?_
    refine wl_nil ?_
    repeat (first | refine zA ?_ | refine zB ?_ | refine zC ?_ | refine zD ?_ | refine zE ?_ | refine zF ?_ | refine zG ?_ | refine zH ?_ | refine zI ?_ | refine zJ ?_ | refine zK ?_ | refine zL ?_ | refine zM rfl ?_ | refine zN ?_ | refine zO ?_ | refine zP ?_ | refine zQ ?_ | refine zR rfl ?_ | refine zS rfl ?_ | refine zT Tryz.mixed (by kernel_rfl) ?_)
    exact ne_ret2 Tryz.hT rfl (.tmp rfl) (.tmp rfl) () rfl trivial fun W _ => NewBx.nil _ _
  · refine wl_call1 rfl rfl rfl rfl rfl rfl (by kernel_rfl) (fun W h => (hquick W (ht.hp h)).cast (if_neg hs)) ?_
    iterate 5 refine wl_pure Tryz.hT rfl rfl rfl ?_
    refine wl_nil ?_
    repeat (first | refine zA ?_ | refine zB ?_ | refine zC ?_ | refine zD ?_ | refine zE ?_ | refine zF ?_ | refine zG ?_ | refine zH ?_ | refine zI ?_ | refine zJ ?_ | refine zK ?_ | refine zL ?_ | refine zM rfl ?_ | refine zN ?_ | refine zO ?_ | refine zP ?_ | refine zQ ?_ | refine zR rfl ?_ | refine zS rfl ?_ | refine zT Tryz.mixed (by kernel_rfl) ?_)
    refine wl_pure Tryz.hT rfl rfl rfl ?_
    refine wl_nil ?_
    repeat (first | refine zA ?_ | refine zB ?_ | refine zC ?_ | refine zD ?_ | refine zE ?_ | refine zF ?_ | refine zG ?_ | refine zH ?_ | refine zI ?_ | refine zJ ?_ | refine zK ?_ | refine zL ?_ | refine zM rfl ?_ | refine zN ?_ | refine zO ?_ | refine zP ?_ | refine zQ ?_ | refine zR rfl ?_ | refine zS rfl ?_ | refine zT Tryz.mixed (by kernel_rfl) ?_)
    iterate 2 refine wl_pure Tryz.hT rfl rfl rfl ?_
    refine wl_call (X := Nat) rfl rfl rfl rfl rfl rfl (by kernel_rfl) (fun W _ => combined_gives 55 W) ?_
    intro b18 _
    refine wl_call1 rfl rfl rfl rfl rfl rfl (by kernel_rfl) (fun W hp => rboth_gives p q (numS (p + q)) 0 96 [selfP b18] h.okp h.okq W (hv.hp hp) (ht.hp hp) (by kernel_rfl) (fun W' hb => (combC_gives p q b18 55 (p.num * (q.den : Nat) + q.num * (p.den : Nat)) h.okp h.okq h.c1 h.c2 h.add h.d (by kernel_rfl) (fun W2 ht2 => (iaddS_gives _ _ h.c1 h.c2 W2 ht2).cast (resV_N h.add)) W' ((ht.hp hp).below hb) ((RowAt.of_bx hp 0 rfl rfl).below (Nat.le_refl _) hb)).cast (congrArg (fun r => Value.tuple #[str (numS r), .int .i64 0]) (rat_add p q)))) ?_
    iterate 4 refine wl_pure Tryz.hT rfl rfl rfl ?_
    refine wl_nil ?_
    repeat (first | refine zA ?_ | refine zB ?_ | refine zC ?_ | refine zD ?_ | refine zE ?_ | refine zF ?_ | refine zG ?_ | refine zH ?_ | refine zI ?_ | refine zJ ?_ | refine zK ?_ | refine zL ?_ | refine zM rfl ?_ | refine zN ?_ | refine zO ?_ | refine zP ?_ | refine zQ ?_ | refine zR rfl ?_ | refine zS rfl ?_ | refine zT Tryz.mixed (by kernel_rfl) ?_)
    exact ne_ret2 Tryz.hT rfl (.tmp rfl) (.tmp rfl) () rfl trivial fun W _ => NewBx.nil _ _
end Go.Proofs.YtddadjbflgdomaaGreatDoor
namespace Go.Proofs.YtddadjbflgdomaaGreatDoor
open Go Go.RowKit Go.Am Go.Lib
set_option maxRecDepth 10000
-- BOXES 4
set_option maxHeartbeats 8000000 in
theorem rsub_gives (p q : Rat) (h : Sz2 p q) (W0 : World) (hv : MaxP W0) (ht : TabP W0) :
    CallsR Tryz.prog 20 #[str (numS p), str (numS q)] W0 (fun _ : Unit => .tuple #[str (numS (p - q)), .int .i64 0]) (fun _ => True) (fun _ => []) := by
  have hlp := numS_len h.okp
  have hlq := numS_len h.okq
  refine calls_enter (args := [str (numS p), str (numS q)]) Tryz.func20 rfl rfl rfl ?_
  refine zA ?_
  refine zB ?_
  iterate 2 refine wl_pure Tryz.hT rfl rfl rfl ?_
  refine wl_nil ?_
  refine zE ?_
  iterate 2 refine zA ?_
  refine zB ?_
  iterate 2 refine wl_pure Tryz.hT rfl rfl rfl ?_
  have hquick : ∀ W, TabP W → CallsR Tryz.prog 45 #[str (numS p), str (numS q), .func (.func 51) #[] #[]] W (fun _ : Unit => if smQ p ∧ smQ q then .tuple #[str (numS (p - q)), .bool true] else .tuple #[str [], .bool false]) (fun _ => True) (fun _ => []) :=
    fun W ht => quick_gives p q (p - q) (p.num * (q.den : Nat) - q.num * (p.den : Nat)) ((p.den : Nat) * (q.den : Nat)) _ (by kernel_rfl) (by omega) (by omega) (fun hp hq => by
      have m1 := mul_8 hp.1 (sm_d q hq)
      have m2 := mul_8 hq.1 (sm_d p hp)
      have m3 := mul_8 (sm_d p hp) (sm_d q hq)
      exact ⟨subC_gives _ _ _ _ hp.1 (sm_d p hp) hq.1 (sm_d q hq), okN_den, by omega, by omega, rat_sub p q⟩) W ht
  by_cases hs : smQ p ∧ smQ q
  · refine wl_call1 rfl rfl rfl rfl rfl rfl (by kernel_rfl) (fun W h => (hquick W (ht.hp h)).cast (if_pos hs)) ?_
    iterate 5 refine wl_pure Tryz.hT rfl rfl rfl ?_
    refine wl_nil ?_
    refine zE ?_
    refine zA ?_
    refine zB ?_
    refine wl_pure Tryz.hT rfl rfl rfl ?_
    refine wl_nil ?_
    refine zE ?_
    refine zR rfl ?_
    refine zA ?_
    refine zB ?_
    iterate 3 refine wl_pure Tryz.hT rfl rfl rfl ?_
    refine wl_nil ?_
    refine zE ?_
    refine zO ?_
    refine zP ?_
    exact ne_ret2 Tryz.hT rfl (.tmp rfl) (.tmp rfl) () rfl trivial fun W _ => NewBx.nil _ _
  · refine wl_call1 rfl rfl rfl rfl rfl rfl (by kernel_rfl) (fun W h => (hquick W (ht.hp h)).cast (if_neg hs)) ?_
    iterate 5 refine wl_pure Tryz.hT rfl rfl rfl ?_
    refine wl_nil ?_
    refine zE ?_
    refine zA ?_
    refine zB ?_
    refine wl_pure Tryz.hT rfl rfl rfl ?_
    refine wl_nil ?_
    refine zE ?_
    refine zS rfl ?_
    refine zI ?_
    refine zE ?_
    refine zA ?_
    refine zB ?_
    iterate 2 refine wl_pure Tryz.hT rfl rfl rfl ?_
    refine wl_call (X := Nat) rfl rfl rfl rfl rfl rfl (by kernel_rfl) (fun W _ => combined_gives 53 W) ?_
    intro b18 _
    refine wl_call1 rfl rfl rfl rfl rfl rfl (by kernel_rfl) (fun W hp => rboth_gives p q (numS (p - q)) 0 96 [selfP b18] h.okp h.okq W (hv.hp hp) (ht.hp hp) (by kernel_rfl) (fun W' hb => (combC_gives p q b18 53 (p.num * (q.den : Nat) - q.num * (p.den : Nat)) h.okp h.okq h.c1 h.c2 h.sub h.d (by kernel_rfl) (fun W2 ht2 => (isub_gives _ _ h.c1 h.c2 W2 ht2).cast (resV_N h.sub)) W' ((ht.hp hp).below hb) ((RowAt.of_bx hp 0 rfl rfl).below (Nat.le_refl _) hb)).cast (congrArg (fun r => Value.tuple #[str (numS r), .int .i64 0]) (rat_sub p q)))) ?_
    iterate 4 refine wl_pure Tryz.hT rfl rfl rfl ?_
    refine wl_nil ?_
    refine zE ?_
    refine zO ?_
    exact ne_ret2 Tryz.hT rfl (.tmp rfl) (.tmp rfl) () rfl trivial fun W _ => NewBx.nil _ _
set_option maxHeartbeats 8000000 in
theorem rmul_gives (p q : Rat) (h : Sz2 p q) (W0 : World) (hv : MaxP W0) (ht : TabP W0) :
    CallsR Tryz.prog 17 #[str (numS p), str (numS q)] W0 (fun _ : Unit => .tuple #[str (numS (p * q)), .int .i64 0]) (fun _ => True) (fun _ => []) := by
  have hlp := numS_len h.okp
  have hlq := numS_len h.okq
  refine calls_enter (args := [str (numS p), str (numS q)]) Tryz.func17 rfl rfl rfl ?_
  refine zA ?_
  refine zB ?_
  iterate 2 refine wl_pure Tryz.hT rfl rfl rfl ?_
  refine wl_nil ?_
  refine zE ?_
  iterate 2 refine zA ?_
  refine zB ?_
  iterate 2 refine wl_pure Tryz.hT rfl rfl rfl ?_
  have hquick : ∀ W, TabP W → CallsR Tryz.prog 45 #[str (numS p), str (numS q), .func (.func 46) #[] #[]] W (fun _ : Unit => if smQ p ∧ smQ q then .tuple #[str (numS (p * q)), .bool true] else .tuple #[str [], .bool false]) (fun _ => True) (fun _ => []) :=
    fun W ht => quick_gives p q (p * q) (p.num * q.num) ((p.den : Nat) * (q.den : Nat)) _ (by kernel_rfl) (by omega) (by omega) (fun hp hq => by
      have m1 := mul_8 hp.1 hq.1
      have m3 := mul_8 (sm_d p hp) (sm_d q hq)
      exact ⟨mulC_gives _ _ _ _ hp.1 (sm_d p hp) hq.1 (sm_d q hq), okN_den, by omega, by omega, rat_mul p q⟩) W ht
  by_cases hs : smQ p ∧ smQ q
  · refine wl_call1 rfl rfl rfl rfl rfl rfl (by kernel_rfl) (fun W h => (hquick W (ht.hp h)).cast (if_pos hs)) ?_
    iterate 5 refine wl_pure Tryz.hT rfl rfl rfl ?_
    refine wl_nil ?_
    refine zE ?_
    refine zA ?_
    refine zB ?_
    refine wl_pure Tryz.hT rfl rfl rfl ?_
    refine wl_nil ?_
    refine zE ?_
    refine zR rfl ?_
    refine zA ?_
    refine zB ?_
    iterate 3 refine wl_pure Tryz.hT rfl rfl rfl ?_
    refine wl_nil ?_
    refine zE ?_
    refine zO ?_
    refine zP ?_
    exact ne_ret2 Tryz.hT rfl (.tmp rfl) (.tmp rfl) () rfl trivial fun W _ => NewBx.nil _ _
  · refine wl_call1 rfl rfl rfl rfl rfl rfl (by kernel_rfl) (fun W h => (hquick W (ht.hp h)).cast (if_neg hs)) ?_
    iterate 5 refine wl_pure Tryz.hT rfl rfl rfl ?_
    refine wl_nil ?_
    refine zE ?_
    refine zA ?_
    refine zB ?_
    refine wl_pure Tryz.hT rfl rfl rfl ?_
    refine wl_nil ?_
    refine zE ?_
    refine zS rfl ?_
    refine zI ?_
    refine zE ?_
    refine zA ?_
    refine zB ?_
    iterate 2 refine wl_pure Tryz.hT rfl rfl rfl ?_
    refine wl_call1 rfl rfl rfl rfl rfl rfl (by kernel_rfl) (fun W hp => rboth_gives p q (numS (p * q)) 0 48 [] h.okp h.okq W (hv.hp hp) (ht.hp hp) (by kernel_rfl) (fun W' hb => mul2_gives p q h.okp h.okq h.n h.d W' ((ht.hp hp).below hb))) ?_
    iterate 4 refine wl_pure Tryz.hT rfl rfl rfl ?_
    refine wl_nil ?_
    refine zE ?_
    refine zO ?_
    exact ne_ret2 Tryz.hT rfl (.tmp rfl) (.tmp rfl) () rfl trivial fun W _ => NewBx.nil _ _
theorem numS_0 {q : Rat} : numS q = [48] ↔ q.num = 0 := by
  constructor
  · intro h
    unfold numS parS at h
    split at h
    · exact itoa_0.1 h
    · have : (47 : UInt8) ∈ ([48] : List UInt8) := by rw [← h]; exact List.mem_append_right _ (List.mem_cons_self ..)
      exact absurd this (by decide)
  · intro h
    have hd : q.den = 1 := by
      have := q.reduced
      rw [h] at this
      simpa [Nat.Coprime] using this
    rw [numS, parS, if_pos hd, h, itoa_zero]
set_option maxHeartbeats 8000000 in
theorem rdiv_gives (p q : Rat) (h : Sz2 p q) (W0 : World) (hv : MaxP W0) (ht : TabP W0) :
    CallsR Tryz.prog 102 #[str (numS p), str (numS q)] W0 (fun _ : Unit => .tuple #[str (divR p q).1, .int .i64 (divR p q).2]) (fun _ => True) (fun _ => []) := by
  have hlp := numS_len h.okp
  have hlq := numS_len h.okq
  have hboth : ∀ W, MaxP W → TabP W → CallsR Tryz.prog 47 #[str (numS p), str (numS q), .func (.func 132) #[] #[]] W (fun _ : Unit => .tuple #[str (divR p q).1, .int .i64 (divR p q).2]) (fun _ => True) (fun _ => []) :=
    fun W hv ht => rboth_gives p q _ _ 132 [] h.okp h.okq W hv ht (by kernel_rfl) (fun W' hb => div2_gives p q h.okp h.okq h.c1 h.c2 W' (ht.below hb))
  refine calls_enter (args := [str (numS p), str (numS q)]) Tryz.func102 rfl rfl rfl ?_
  refine zA ?_
  refine zB ?_
  iterate 2 refine wl_pure Tryz.hT rfl rfl rfl ?_
  refine wl_nil ?_
  refine zE ?_
  iterate 2 refine zA ?_
  refine zB ?_
  iterate 2 refine wl_pure Tryz.hT rfl rfl rfl ?_
  by_cases h0 : q.num = 0
  · refine wl_upd 9 (.bool false) rfl (congrArg Value.bool (by show (!_) = false; rw [strEqB, decide_eq_true (numS_0.2 h0)]; rfl)) ?_
    refine wl_nil ?_
    refine zE ?_
    refine zS rfl ?_
    refine zI ?_
    refine zE ?_
    refine zA ?_
    refine zB ?_
    iterate 2 refine wl_pure Tryz.hT rfl rfl rfl ?_
    refine wl_call1 rfl rfl rfl rfl rfl rfl (by kernel_rfl) (fun W hp => hboth W (hv.hp hp) (ht.hp hp)) ?_
    iterate 4 refine wl_pure Tryz.hT rfl rfl rfl ?_
    refine wl_nil ?_
    refine zE ?_
    refine zO ?_
    exact ne_ret2 Tryz.hT rfl (.tmp rfl) (.tmp rfl) () rfl trivial fun W _ => NewBx.nil _ _
  · have hval : divR p q = (numS (p / q), 0) := if_neg h0
    refine wl_upd 9 (.bool true) rfl (congrArg Value.bool (by show (!_) = true; rw [strEqB, decide_eq_false fun e => h0 (numS_0.1 e)]; rfl)) ?_
    refine wl_nil ?_
    refine zE ?_
    refine zR rfl ?_
    refine zA ?_
    refine zB ?_
    iterate 2 refine wl_pure Tryz.hT rfl rfl rfl ?_
    have hquick : ∀ W, TabP W → CallsR Tryz.prog 45 #[str (numS p), str (numS q), .func (.func 131) #[] #[]] W (fun _ : Unit => if smQ p ∧ smQ q then .tuple #[str (numS (p / q)), .bool true] else .tuple #[str [], .bool false]) (fun _ => True) (fun _ => []) :=
      fun W ht => quick_gives p q (p / q) (p.num * (q.den : Nat)) ((p.den : Nat) * q.num) _ (by kernel_rfl) (by omega) (by omega) (fun hp hq => by
        have m1 := mul_8 hp.1 (sm_d q hq)
        have m3 := mul_8 (sm_d p hp) hq.1
        exact ⟨divC_gives _ _ _ _ hp.1 (sm_d p hp) hq.1 (sm_d q hq), Int.mul_ne_zero (by have := p.den_nz; omega) h0, by omega, by omega, rat_div p q h0⟩) W ht
    by_cases hs : smQ p ∧ smQ q
    · refine wl_call1 rfl rfl rfl rfl rfl rfl (by kernel_rfl) (fun W h => (hquick W (ht.hp h)).cast (if_pos hs)) ?_
      iterate 5 refine wl_pure Tryz.hT rfl rfl rfl ?_
      refine wl_nil ?_
      refine zE ?_
      refine zA ?_
      refine zB ?_
      refine wl_pure Tryz.hT rfl rfl rfl ?_
      refine wl_nil ?_
      refine zE ?_
      refine zR rfl ?_
      refine zA ?_
      refine zB ?_
      iterate 3 refine wl_pure Tryz.hT rfl rfl rfl ?_
      refine wl_nil ?_
      refine zE ?_
      refine zO ?_
      refine zP ?_
      exact ne_ret2 Tryz.hT rfl (.tmp rfl) (.tmp rfl) () (by rw [hval]) trivial fun W _ => NewBx.nil _ _
    · refine wl_call1 rfl rfl rfl rfl rfl rfl (by kernel_rfl) (fun W h => (hquick W (ht.hp h)).cast (if_neg hs)) ?_
      iterate 5 refine wl_pure Tryz.hT rfl rfl rfl ?_
      refine wl_nil ?_
      refine zE ?_
      refine zA ?_
      refine zB ?_
      refine wl_pure Tryz.hT rfl rfl rfl ?_
      refine wl_nil ?_
      refine zE ?_
      refine zS rfl ?_
      refine zI ?_
      refine zE ?_
      refine zA ?_
      refine zB ?_
      iterate 2 refine wl_pure Tryz.hT rfl rfl rfl ?_
      refine wl_call1 rfl rfl rfl rfl rfl rfl (by kernel_rfl) (fun W hp => hboth W (hv.hp hp) (ht.hp hp)) ?_
      iterate 4 refine wl_pure Tryz.hT rfl rfl rfl ?_
      refine wl_nil ?_
      refine zE ?_
      refine zO ?_
      exact ne_ret2 Tryz.hT rfl (.tmp rfl) (.tmp rfl) () rfl trivial fun W _ => NewBx.nil _ _
end Go.Proofs.YtddadjbflgdomaaGreatDoor
namespace Go.Proofs.YtddadjbflgdomaaGreatDoor
open Go Go.RowKit Go.Am Go.Lib
set_option maxRecDepth 10000
-- BOXES 5
set_option maxHeartbeats 8000000 in
theorem rcompare_gives (p q : Rat) (h : Sz2 p q) (W0 : World) (hv : MaxP W0) (ht : TabP W0) :
    CallsR Tryz.prog 14 #[str (numS p), str (numS q)] W0 (fun _ : Unit => .tuple #[.int .i64 (cmpZ (p.num * (q.den : Nat)) (q.num * (p.den : Nat))), .int .i64 0]) (fun _ => True) (fun _ => []) := by
  have hlp := numS_len h.okp
  have hlq := numS_len h.okq
  refine calls_enter (args := [str (numS p), str (numS q)]) Tryz.func14 rfl rfl rfl ?_
  refine zA ?_
  refine zB ?_
  iterate 2 refine wl_pure Tryz.hT rfl rfl rfl ?_
  refine wl_nil ?_
  refine ne_then ?_
  refine wc_seq ?_
  refine wc_cutS (X := Unit) (fun _ => [(0, str (numS p)), (1, str (numS q)), (4, .int .i64 0), (5, .int .i64 0)]) (fun _ => []) (fun _ => True) ?_ ?_
  · refine zA ?_
    refine zB ?_
    refine wl_pure Tryz.hT rfl rfl rfl ?_
    by_cases hp : smQ p
    · refine wl_call1 rfl rfl rfl rfl rfl rfl (by kernel_rfl) (fun W _ => (nativeOf_gives (numS p) (by omega) W).cast ((natOf_num p).trans (if_pos hp))) ?_
      iterate 3 refine wl_pure Tryz.hT rfl rfl rfl ?_
      (refine wl_allocZ Tryz.hZ rfl rfl rfl rfl ?_; intro)
      refine wl_storeBx 0 Tryz.hT rfl rfl rfl rfl rfl rfl rfl rfl rfl rfl rfl ?_
      refine wl_pure Tryz.hT rfl rfl rfl ?_
      refine wl_nil ?_
      rename_i b6
      refine zE ?_
      refine zA ?_
      refine zB ?_
      refine wl_pure Tryz.hT rfl rfl rfl ?_
      refine wl_nil ?_
      refine zE ?_
      refine zR rfl ?_
      refine zA ?_
      refine zB ?_
      refine wl_pure Tryz.hT rfl rfl rfl ?_
      by_cases hq : smQ q
      · refine wl_call1 rfl rfl rfl rfl rfl rfl (by kernel_rfl) (fun W _ => (nativeOf_gives (numS q) (by omega) W).cast ((natOf_num q).trans (if_pos hq))) ?_
        iterate 3 refine wl_pure Tryz.hT rfl rfl rfl ?_
        (refine wl_allocZ Tryz.hZ rfl rfl rfl rfl ?_; intro)
        refine wl_storeBx 1 Tryz.hT rfl rfl rfl rfl rfl rfl rfl rfl rfl rfl rfl ?_
        refine wl_pure Tryz.hT rfl rfl rfl ?_
        refine wl_nil ?_
        rename_i b8
        refine zE ?_
        refine zA ?_
        refine zB ?_
        refine wl_pure Tryz.hT rfl rfl rfl ?_
        refine wl_nil ?_
        refine zE ?_
        refine zR rfl ?_
        refine zA ?_
        refine zB ?_
        refine wl_pure Tryz.hT rfl rfl rfl ?_
        refine wl_loadBx 0 Tryz.hT rfl rfl rfl rfl rfl rfl rfl rfl ?_
        refine wl_pure Tryz.hT rfl rfl rfl ?_
        refine wl_loadBx 1 Tryz.hT rfl rfl rfl rfl rfl rfl rfl rfl ?_
        refine wl_pure Tryz.hT rfl rfl rfl ?_
        refine wl_upd 31 (.int .i64 (p.num * (q.den : Nat))) rfl (congrArg (Value.int .i64) (w64_mul8 hp.1 (sm_d q hq))) ?_
        refine wl_pure Tryz.hT rfl rfl rfl ?_
        refine wl_loadBx 1 Tryz.hT rfl rfl rfl rfl rfl rfl rfl rfl ?_
        refine wl_pure Tryz.hT rfl rfl rfl ?_
        refine wl_loadBx 0 Tryz.hT rfl rfl rfl rfl rfl rfl rfl rfl ?_
        refine wl_pure Tryz.hT rfl rfl rfl ?_
        refine wl_upd 36 (.int .i64 (q.num * (p.den : Nat))) rfl (congrArg (Value.int .i64) (w64_mul8 hq.1 (sm_d p hp))) ?_
        refine wl_call1 rfl rfl rfl rfl rfl rfl (by kernel_rfl) (fun W _ => icmp_gives _ _ W) ?_
        iterate 2 refine wl_pure Tryz.hT rfl rfl rfl ?_
        refine wl_nil ?_
        refine zE ?_
        refine zO ?_
        refine zP ?_
        exact ne_ret2 Tryz.hT rfl (.tmp rfl) (.tmp rfl) () rfl trivial fun W _ => NewBx.nil _ _
      · refine wl_call1 rfl rfl rfl rfl rfl rfl (by kernel_rfl) (fun W _ => (nativeOf_gives (numS q) (by omega) W).cast ((natOf_num q).trans (if_neg hq))) ?_
        iterate 3 refine wl_pure Tryz.hT rfl rfl rfl ?_
        (refine wl_allocZ Tryz.hZ rfl rfl rfl rfl ?_; intro)
        refine wl_storeBx 1 Tryz.hT rfl rfl rfl rfl rfl rfl rfl rfl rfl rfl rfl ?_
        refine wl_pure Tryz.hT rfl rfl rfl ?_
        refine wl_nil ?_
        refine zE ?_
        refine zA ?_
        refine zB ?_
        refine wl_pure Tryz.hT rfl rfl rfl ?_
        refine wl_nil ?_
        refine zE ?_
        refine zS rfl ?_
        refine zI ?_
        exact ne_cut () trivial ⟨rfl, rfl, rfl, rfl, trivial⟩ _ rfl
    · refine wl_call1 rfl rfl rfl rfl rfl rfl (by kernel_rfl) (fun W _ => (nativeOf_gives (numS p) (by omega) W).cast ((natOf_num p).trans (if_neg hp))) ?_
      iterate 3 refine wl_pure Tryz.hT rfl rfl rfl ?_
      (refine wl_allocZ Tryz.hZ rfl rfl rfl rfl ?_; intro)
      refine wl_storeBx 0 Tryz.hT rfl rfl rfl rfl rfl rfl rfl rfl rfl rfl rfl ?_
      refine wl_pure Tryz.hT rfl rfl rfl ?_
      refine wl_nil ?_
      refine zE ?_
      refine zA ?_
      refine zB ?_
      refine wl_pure Tryz.hT rfl rfl rfl ?_
      refine wl_nil ?_
      refine zE ?_
      refine zS rfl ?_
      refine zI ?_
      exact ne_cut () trivial ⟨rfl, rfl, rfl, rfl, trivial⟩ _ rfl
  · intro _ _
    refine zA ?_
    refine zB ?_
    refine wl_pure Tryz.hT rfl rfl rfl ?_
    refine wl_call1 rfl rfl rfl rfl rfl rfl (by kernel_rfl) (fun W hp => (rread_gives (numS p) (by omega) W (hv.hp hp) (ht.hp hp)).cast (rd_num h.okp)) ?_
    iterate 3 refine wl_pure Tryz.hT rfl rfl rfl ?_
    (refine wl_allocZ Tryz.hZ rfl rfl rfl rfl ?_; intro)
    refine wl_storeBx 0 Tryz.hT rfl rfl rfl rfl rfl rfl rfl rfl rfl rfl rfl ?_
    refine wl_pure Tryz.hT rfl rfl rfl ?_
    refine wl_nil ?_
    rename_i b10
    refine zE ?_
    iterate 2 refine zA ?_
    refine zB ?_
    iterate 2 refine wl_pure Tryz.hT rfl rfl rfl ?_
    refine wl_nil ?_
    refine zE ?_
    refine zS rfl ?_
    refine zI ?_
    refine zE ?_
    refine zA ?_
    refine zB ?_
    refine wl_pure Tryz.hT rfl rfl rfl ?_
    refine wl_call1 rfl rfl rfl rfl rfl rfl (by kernel_rfl) (fun W hp => (rread_gives (numS q) (by omega) W (hv.hp hp) (ht.hp hp)).cast (rd_num h.okq)) ?_
    iterate 3 refine wl_pure Tryz.hT rfl rfl rfl ?_
    (refine wl_allocZ Tryz.hZ rfl rfl rfl rfl ?_; intro)
    refine wl_storeBx 1 Tryz.hT rfl rfl rfl rfl rfl rfl rfl rfl rfl rfl rfl ?_
    refine wl_pure Tryz.hT rfl rfl rfl ?_
    refine wl_nil ?_
    rename_i b12
    refine zE ?_
    iterate 2 refine zA ?_
    refine zB ?_
    iterate 2 refine wl_pure Tryz.hT rfl rfl rfl ?_
    refine wl_nil ?_
    refine zE ?_
    refine zS rfl ?_
    refine zI ?_
    refine zE ?_
    refine zA ?_
    refine zB ?_
    refine wl_loadBx 0 Tryz.hT rfl rfl rfl rfl rfl rfl rfl rfl ?_
    refine wl_loadBx 1 Tryz.hT rfl rfl rfl rfl rfl rfl rfl rfl ?_
    refine wl_call1 rfl rfl rfl rfl rfl rfl (by kernel_rfl) (fun W hp => crossed_gives p q h.okp h.okq h.c1 h.c2 W (ht.hp hp)) ?_
    iterate 7 refine wl_pure Tryz.hT rfl rfl rfl ?_
    refine wl_nil ?_
    refine zE ?_
    iterate 2 refine zA ?_
    refine zB ?_
    iterate 2 refine wl_pure Tryz.hT rfl rfl rfl ?_
    refine wl_nil ?_
    refine zE ?_
    refine zS rfl ?_
    refine zI ?_
    refine zE ?_
    refine zA ?_
    refine zB ?_
    iterate 2 refine wl_pure Tryz.hT rfl rfl rfl ?_
    refine wl_call1 rfl rfl rfl rfl rfl rfl (by kernel_rfl) (fun W _ => icompare_gives _ _ h.c1 h.c2 W) ?_
    iterate 4 refine wl_pure Tryz.hT rfl rfl rfl ?_
    refine wl_nil ?_
    refine zE ?_
    refine zO ?_
    exact ne_ret2 Tryz.hT rfl (.tmp rfl) (.tmp rfl) () rfl trivial fun W _ => NewBx.nil _ _
end Go.Proofs.YtddadjbflgdomaaGreatDoor
namespace Go.Proofs.YtddadjbflgdomaaGreatDoor
open Go Go.RowKit Go.Am Go.Lib
set_option maxRecDepth 10000
-- BOXES 4
theorem nrm_one (a : Int) : numS (nrm a 1) = itoa a := by
  have e : nrm a 1 = mkRat a 1 := rfl
  rw [e, numS_one (by decide) (by rw [Nat.gcd_one_right])]
  rw [Nat.gcd_one_right]
  show itoa (a / 1) = _
  rw [Int.ediv_one]
def ofR (a b : Int) : List UInt8 × Int := if b = 0 then ([], 12) else (numS (nrm a b), 0)
theorem okN_64 {z : Int} (h0 : -9223372036854775808 ≤ z) (h1 : z ≤ 9223372036854775807) : okN z := okN_18 (by
  have : (10 : Nat) ^ 20 = 100000000000000000000 := by decide
  omega)
set_option maxHeartbeats 8000000 in
theorem rof_gives (a b : Int) (ha : -9223372036854775808 ≤ a ∧ a ≤ 9223372036854775807) (hb : -9223372036854775808 ≤ b ∧ b ≤ 9223372036854775807) (W : World) (ht : TabP W) :
    CallsR Tryz.prog 13 #[.int .i64 a, .int .i64 b] W (fun _ : Unit => .tuple #[str (ofR a b).1, .int .i64 (ofR a b).2]) (fun _ => True) (fun _ => []) := by
  refine calls_enter (args := [.int .i64 a, .int .i64 b]) Tryz.func13 rfl rfl rfl ?_
  refine zA ?_
  refine zB ?_
  iterate 2 refine wl_pure Tryz.hT rfl rfl rfl ?_
  refine wl_nil ?_
  refine zE ?_
  iterate 2 refine zA ?_
  refine zB ?_
  refine wl_pure Tryz.hT rfl rfl rfl ?_
  refine wl_nil ?_
  refine zE ?_
  refine zH ?_
  refine zA ?_
  refine zB ?_
  refine wl_pure Tryz.hT rfl rfl rfl ?_
  by_cases h0 : b = 0
  · refine wl_upd 8 (.bool true) rfl (congrArg Value.bool (by rw [h0]; rfl)) ?_
    refine wl_pure Tryz.hT rfl rfl rfl ?_
    refine wl_nil ?_
    refine zE ?_
    refine zR rfl ?_
    refine zA ?_
    refine zB ?_
    iterate 2 refine wl_pure Tryz.hT rfl rfl rfl ?_
    refine wl_nil ?_
    refine zE ?_
    refine zO ?_
    refine zQ ?_
    refine zP ?_
    exact ne_ret2 Tryz.hT rfl (.tmp rfl) (.tmp rfl) () (by rw [ofR, if_pos h0]) trivial fun W _ => NewBx.nil _ _
  · have hval : ofR a b = (numS (nrm a b), 0) := if_neg h0
    refine wl_upd 8 (.bool false) rfl (congrArg Value.bool (by rw [beq_eq_false_iff_ne]; exact h0)) ?_
    refine wl_pure Tryz.hT rfl rfl rfl ?_
    refine wl_nil ?_
    refine zE ?_
    refine zS rfl ?_
    refine zA ?_
    refine zB ?_
    refine wl_pure Tryz.hT rfl rfl rfl ?_
    by_cases h1 : b = 1
    · refine wl_upd 10 (.bool true) rfl (congrArg Value.bool (by rw [h1]; rfl)) ?_
      refine wl_pure Tryz.hT rfl rfl rfl ?_
      refine wl_nil ?_
      refine zE ?_
      refine zR rfl ?_
      refine zA ?_
      refine zB ?_
      refine wl_pure Tryz.hT rfl rfl rfl ?_
      refine wl_call1 rfl rfl rfl rfl rfl rfl (by kernel_rfl) (fun W hp => itoa_gives a ha.1 ha.2 W (ht.hp hp)) ?_
      iterate 2 refine wl_pure Tryz.hT rfl rfl rfl ?_
      refine wl_nil ?_
      refine zE ?_
      refine zO ?_
      refine zQ ?_
      refine zP ?_
      exact ne_ret2 Tryz.hT rfl (.tmp rfl) (.tmp rfl) () (by rw [hval, h1, nrm_one]) trivial fun W _ => NewBx.nil _ _
    · refine wl_upd 10 (.bool false) rfl (congrArg Value.bool (by rw [beq_eq_false_iff_ne]; exact h1)) ?_
      refine wl_pure Tryz.hT rfl rfl rfl ?_
      refine wl_nil ?_
      refine zE ?_
      refine zS rfl ?_
      refine zI ?_
      refine zN ?_
      refine zE ?_
      refine zA ?_
      refine zB ?_
      refine wl_pure Tryz.hT rfl rfl rfl ?_
      refine wl_call1 rfl rfl rfl rfl rfl rfl (by kernel_rfl) (fun W hp => itoa_gives a ha.1 ha.2 W (ht.hp hp)) ?_
      refine wl_pure Tryz.hT rfl rfl rfl ?_
      refine wl_call1 rfl rfl rfl rfl rfl rfl (by kernel_rfl) (fun W hp => itoa_gives b hb.1 hb.2 W (ht.hp hp)) ?_
      refine wl_call1 rfl rfl rfl rfl rfl rfl (by kernel_rfl) (fun W hp => ratNumber_gives a b h0 (okN_64 ha.1 ha.2) (okN_64 hb.1 hb.2) W (ht.hp hp)) ?_
      iterate 4 refine wl_pure Tryz.hT rfl rfl rfl ?_
      refine wl_nil ?_
      refine zE ?_
      refine zO ?_
      exact ne_ret2 Tryz.hT rfl (.tmp rfl) (.tmp rfl) () (by rw [hval]) trivial fun W _ => NewBx.nil _ _
set_option maxHeartbeats 4000000 in
theorem rcheck_gives (a : List UInt8) (hl : a.length ≤ 4000000000) (W : World) (hv : MaxP W) (ht : TabP W) :
    CallsR Tryz.prog 75 #[str a] W (fun _ : Unit => .int .i64 (rdR a).2) (fun _ => True) (fun _ => []) := by
  refine calls_enter (args := [str a]) Tryz.func75 rfl rfl rfl ?_
  refine zA ?_
  refine zB ?_
  refine wl_pure Tryz.hT rfl rfl rfl ?_
  refine wl_nil ?_
  refine zE ?_
  refine zA ?_
  refine zB ?_
  refine wl_pure Tryz.hT rfl rfl rfl ?_
  refine wl_call1 rfl rfl rfl rfl rfl rfl (by kernel_rfl) (fun W h => rread_gives a hl W (hv.hp h) (ht.hp h)) ?_
  iterate 3 refine wl_pure Tryz.hT rfl rfl rfl ?_
  (refine wl_allocZ Tryz.hZ rfl rfl rfl rfl ?_; intro)
  refine wl_storeBx 0 Tryz.hT rfl rfl rfl rfl rfl rfl rfl rfl rfl rfl rfl ?_
  refine wl_pure Tryz.hT rfl rfl rfl ?_
  refine wl_nil ?_
  refine zE ?_
  refine zA ?_
  refine zB ?_
  iterate 2 refine wl_pure Tryz.hT rfl rfl rfl ?_
  refine wl_nil ?_
  refine zE ?_
  refine zO ?_
  exact ne_ret1 Tryz.hT rfl (.tmp rfl) () rfl trivial fun W _ => NewBx.nil _ _
theorem rd_okQ {q : Rat} (h : okQ q) : rdR (numS q) = ((itoa q.num, decDigits q.den), 0) := by
  have hd : q.den < ten300 := by have := h.2; unfold okN at this; rwa [Int.natAbs_natCast] at this
  have hf : frm (numS q) = some (q.num, q.den) := frm_parS q.num q.den_pos
  unfold rdR; rw [hf]; exact (if_pos ⟨h.1, hd⟩).trans (if_pos q.reduced)
end Go.Proofs.YtddadjbflgdomaaGreatDoor
namespace Go.Proofs.YtddadjbflgdomaaGreatDoor
open Go Go.RowKit Go.Am Go.Lib
set_option maxRecDepth 10000
theorem cmpQ_lt (p q : Rat) : p.num * (q.den : Nat) < q.num * (p.den : Nat) ↔ p < q := (Rat.lt_iff p q).symm
def cmpQ (p q : Rat) : Int := if p < q then -1 else if p = q then 0 else 1
theorem cmpZ_Q (p q : Rat) : cmpZ (p.num * (q.den : Nat)) (q.num * (p.den : Nat)) = cmpQ p q := by
  unfold cmpZ cmpQ
  have h1 := cmpQ_lt p q
  have h2 : p.num * (q.den : Nat) = q.num * (p.den : Nat) ↔ p = q := by
    constructor
    · intro h
      have a := Rat.num_divInt_den p
      have b := Rat.num_divInt_den q
      rw [← a, ← b]
      exact (Rat.divInt_eq_divInt_iff (by have := p.den_nz; omega) (by have := q.den_nz; omega)).2 h
    · rintro rfl; rfl
  by_cases h : p < q
  · rw [if_pos h, if_pos (h1.2 h)]
  · rw [if_neg h, if_neg (fun e => h (h1.1 e))]
    by_cases e : p = q
    · rw [if_pos e, if_pos (h2.2 e)]
    · rw [if_neg e, if_neg (fun h => e (h2.1 h))]
theorem cmpQ_le (p q : Rat) : (decide (cmpQ p q ≤ 0)) = decide (p ≤ q) := by
  unfold cmpQ
  refine decide_eq_decide.2 ?_
  by_cases h : p < q
  · rw [if_pos h]; exact ⟨fun _ => Rat.le_of_lt h, fun _ => by decide⟩
  · rw [if_neg h]
    by_cases e : p = q
    · rw [if_pos e]; exact ⟨fun _ => by rw [e]; exact Rat.le_refl, fun _ => by decide⟩
    · rw [if_neg e]
      exact ⟨fun h => absurd h (by decide), fun h2 => absurd (Rat.lt_of_le_of_ne h2 e) h⟩
theorem numS_zero : numS 0 = [48] := numS_0.2 rfl
theorem cmpQ_lt0 (p q : Rat) : (decide (cmpQ p q < 0)) = decide (p < q) := by
  unfold cmpQ
  refine decide_eq_decide.2 ?_
  by_cases h : p < q
  · rw [if_pos h]; exact ⟨fun _ => h, fun _ => by decide⟩
  · rw [if_neg h]
    by_cases e : p = q
    · rw [if_pos e]; exact ⟨fun h2 => absurd h2 (by decide), fun h2 => absurd h2 h⟩
    · rw [if_neg e]
      exact ⟨fun h => absurd h (by decide), fun h2 => absurd h2 h⟩
theorem numS_inj {p q : Rat} : numS p = numS q ↔ p = q := by
  refine ⟨fun h => ?_, fun h => by rw [h]⟩
  have h1 := frm_parS p.num p.den_pos
  have h2 := frm_parS q.num q.den_pos
  have h : parS p.num p.den = parS q.num q.den := h
  rw [h, h2] at h1
  injection h1 with h1
  injection h1 with a b
  exact Rat.ext a.symm b.symm
theorem numS_eq0 (q : Rat) : decide (numS q = [48]) = decide (q = 0) := decide_eq_decide.2 (by rw [← numS_zero, numS_inj])
theorem num_ne {q : Rat} (h : q ≠ 0) : q.num ≠ 0 := by rwa [ne_eq, Rat.num_eq_zero]
theorem cmpQ_le0 (p q : Rat) : (decide (cmpQ p q ≤ 0)) = decide (p ≤ q) := cmpQ_le p q
theorem cmpQ_gt0 (p q : Rat) : (decide (cmpQ p q > 0)) = decide (q < p) := by
  have h := cmpQ_le0 p q
  rw [decide_eq_decide] at h ⊢
  constructor
  · intro h1
    exact Rat.not_le.1 fun h2 => by have := h.2 h2; omega
  · intro h1
    have : ¬ cmpQ p q ≤ 0 := fun h2 => Rat.not_le.2 h1 (h.1 h2)
    omega
theorem cmpQ_ge0 (p q : Rat) : (decide (cmpQ p q ≥ 0)) = decide (q ≤ p) := by
  have h := cmpQ_lt0 p q
  rw [decide_eq_decide] at h ⊢
  constructor
  · intro h1
    exact Rat.not_lt.1 fun h2 => by have := h.2 h2; omega
  · intro h1
    have : ¬ cmpQ p q < 0 := fun h2 => Rat.not_lt.2 h1 (h.1 h2)
    omega
end Go.Proofs.YtddadjbflgdomaaGreatDoor
namespace Go.Proofs.YtddadjbflgdomaaGreatDoor
open Go Go.RowKit Go.Am Go.Lib
set_option maxRecDepth 10000
-- BOXES 4
set_option maxHeartbeats 4000000 in
theorem rparts_gives (q : Rat) (h : okQ q) (W : World) (hv : MaxP W) (ht : TabP W) :
    CallsR Tryz.prog 76 #[str (numS q)] W (fun _ : Unit => .tuple #[str (itoa q.num), str (itoa (q.den : Nat)), .int .i64 0]) (fun _ => True) (fun _ => []) := by
  have hl := numS_len h
  refine calls_enter (args := [str (numS q)]) Tryz.func76 rfl rfl rfl ?_
  repeat (first | refine zA ?_ | refine zB ?_ | refine zC ?_ | refine zD ?_ | refine zE ?_ | refine zF ?_ | refine zG ?_ | refine zH ?_ | refine zI ?_ | refine zJ ?_ | refine zK ?_ | refine zL ?_ | refine zM rfl ?_ | refine zN ?_ | refine zO ?_ | refine zP ?_ | refine zQ ?_ | refine zR rfl ?_ | refine zS rfl ?_ | refine zT Tryz.mixed (by kernel_rfl) ?_)
  iterate 3 refine wl_pure Tryz.hT rfl rfl rfl ?_
  refine wl_nil ?_
  repeat (first | refine zA ?_ | refine zB ?_ | refine zC ?_ | refine zD ?_ | refine zE ?_ | refine zF ?_ | refine zG ?_ | refine zH ?_ | refine zI ?_ | refine zJ ?_ | refine zK ?_ | refine zL ?_ | refine zM rfl ?_ | refine zN ?_ | refine zO ?_ | refine zP ?_ | refine zQ ?_ | refine zR rfl ?_ | refine zS rfl ?_ | refine zT Tryz.mixed (by kernel_rfl) ?_)
  refine wl_pure Tryz.hT rfl rfl rfl ?_
  refine wl_call1 rfl rfl rfl rfl rfl rfl (by kernel_rfl) (fun W hp => (rread_gives (numS q) (by omega) W (hv.hp hp) (ht.hp hp)).cast (rd_num h)) ?_
  iterate 3 refine wl_pure Tryz.hT rfl rfl rfl ?_
  (refine wl_allocZ Tryz.hZ rfl rfl rfl rfl ?_; intro)
  (first | refine wl_storeBx 0 Tryz.hT rfl rfl rfl rfl rfl rfl rfl rfl rfl rfl rfl ?_ | refine wl_storeBx 1 Tryz.hT rfl rfl rfl rfl rfl rfl rfl rfl rfl rfl rfl ?_ | refine wl_storeBx 2 Tryz.hT rfl rfl rfl rfl rfl rfl rfl rfl rfl rfl rfl ?_ | refine wl_storeBx 3 Tryz.hT rfl rfl rfl rfl rfl rfl rfl rfl rfl rfl rfl ?_)
  refine wl_pure Tryz.hT rfl rfl rfl ?_
  refine wl_nil ?_
  repeat (first | refine zA ?_ | refine zB ?_ | refine zC ?_ | refine zD ?_ | refine zE ?_ | refine zF ?_ | refine zG ?_ | refine zH ?_ | refine zI ?_ | refine zJ ?_ | refine zK ?_ | refine zL ?_ | refine zM rfl ?_ | refine zN ?_ | refine zO ?_ | refine zP ?_ | refine zQ ?_ | refine zR rfl ?_ | refine zS rfl ?_ | refine zT Tryz.mixed (by kernel_rfl) ?_)
  refine wq_pure Tryz.hT rfl rfl rfl ?_
  (first | refine wq_loadBx 0 Tryz.hT rfl rfl rfl rfl rfl rfl rfl rfl ?_ | refine wq_loadBx 1 Tryz.hT rfl rfl rfl rfl rfl rfl rfl rfl ?_ | refine wq_loadBx 2 Tryz.hT rfl rfl rfl rfl rfl rfl rfl rfl ?_ | refine wq_loadBx 3 Tryz.hT rfl rfl rfl rfl rfl rfl rfl rfl ?_)
  refine wq_pure Tryz.hT rfl rfl rfl ?_
  (first | refine wq_loadBx 0 Tryz.hT rfl rfl rfl rfl rfl rfl rfl rfl ?_ | refine wq_loadBx 1 Tryz.hT rfl rfl rfl rfl rfl rfl rfl rfl ?_ | refine wq_loadBx 2 Tryz.hT rfl rfl rfl rfl rfl rfl rfl rfl ?_ | refine wq_loadBx 3 Tryz.hT rfl rfl rfl rfl rfl rfl rfl rfl ?_)
  iterate 4 refine wq_pure Tryz.hT rfl rfl rfl ?_
  refine wq_nil ?_
  refine wl_nil ?_
  repeat (first | refine zA ?_ | refine zB ?_ | refine zC ?_ | refine zD ?_ | refine zE ?_ | refine zF ?_ | refine zG ?_ | refine zH ?_ | refine zI ?_ | refine zJ ?_ | refine zK ?_ | refine zL ?_ | refine zM rfl ?_ | refine zN ?_ | refine zO ?_ | refine zP ?_ | refine zQ ?_ | refine zR rfl ?_ | refine zS rfl ?_ | refine zT Tryz.mixed (by kernel_rfl) ?_)
  exact ne_ret3 Tryz.hT rfl (.tmp rfl) (.tmp rfl) (.tmp rfl) () rfl trivial fun W _ => NewBx.nil _ _
/-- A row of strings. -/
def StrsP (W : World) (p : Option Addr) (l : List (List UInt8)) : Prop := l = [] ∨ ∃ b off, p = some ⟨b, off, none⟩ ∧ RowAt W b off (l.map str)
theorem StrsP.below {W W' : World} {p : Option Addr} {l : List (List UInt8)} {n : Nat} (h : StrsP W p l) (hn : W.heap.size ≤ n) (hb : Below n W W') : StrsP W' p l := by
  rcases h with h | ⟨b, off, h1, h2⟩
  · exact .inl h
  · exact .inr ⟨b, off, h1, h2.below hn hb⟩
theorem StrsP.hp {W0 W : World} {bxs : List Bx} {p : Option Addr} {l : List (List UInt8)} (h : StrsP W0 p l) (hp : Hp W0 bxs W) : StrsP W p l := h.below (Nat.le_refl _) hp.below
theorem StrsP.row {W : World} {p : Option Addr} {l : List (List UInt8)} (h : StrsP W p l) {i : Nat} (hi : i < l.length) : ∃ b off, p = some ⟨b, off, none⟩ ∧ ∀ k (hk : k < l.length), RowAt W b (off + k * 1) [str l[k]] := by
  rcases h with rfl | ⟨b, off, h1, h2⟩
  · exact absurd hi (Nat.not_lt_zero _)
  · refine ⟨b, off, h1, fun k hk => ⟨h2.lt, fun j u hu => ?_⟩⟩
    have hj : j = 0 := by have := (List.getElem?_eq_some_iff.1 hu).1; simpa using this
    subst hj
    have := h2.get k (str l[k]) (by rw [List.getElem?_map, List.getElem?_eq_getElem hk]; rfl)
    rw [Nat.mul_one, Nat.add_zero, this]
    simpa using hu
theorem it_pos (n : Nat) : itoa (n : Int) = decDigits n := by
  unfold itoa; rw [if_neg (by omega)]; rfl
abbrev q2 (n : Int) (d : Nat) (h : d ≠ 0 := by decide) (hc : n.natAbs.Coprime d := by decide) : Rat := ⟨n, d, h, hc⟩
theorem dd1 (n : Nat) (h : n < 10) : decDigits n = [UInt8.ofNat (48 + n)] := by rw [decDigits, dif_pos h]
theorem dd2 (n : Nat) (h : ¬ n < 10) (h2 : n / 10 < 10) : decDigits n = [UInt8.ofNat (48 + n / 10), UInt8.ofNat (48 + n % 10)] := by
  rw [decDigits, dif_neg h, dd1 _ h2]; rfl
theorem ns0 : numS (q2 0 1) = [48] := by rw [numS, parS, if_pos rfl]; exact (it_pos 0).trans (dd1 0 (by decide))
theorem ns1 : numS (q2 1 1) = [49] := by rw [numS, parS, if_pos rfl]; exact (it_pos 1).trans (dd1 1 (by decide))
theorem ns2 : numS (q2 2 1) = [50] := by rw [numS, parS, if_pos rfl]; exact (it_pos 2).trans (dd1 2 (by decide))
theorem ns6 : numS (q2 6 1) = [54] := by rw [numS, parS, if_pos rfl]; exact (it_pos 6).trans (dd1 6 (by decide))
theorem ns8 : numS (q2 8 1) = [56] := by rw [numS, parS, if_pos rfl]; exact (it_pos 8).trans (dd1 8 (by decide))
end Go.Proofs.YtddadjbflgdomaaGreatDoor
namespace Go.Proofs.YtddadjbflgdomaaGreatDoor
open Go Go.RowKit Go.Am Go.Lib
set_option maxRecDepth 10000
-- BOXES 4
theorem bnum_gives (z : Int) (hz : -9223372036854775808 ≤ z ∧ z ≤ 9223372036854775807) (W : World) (ht : TabP W) :
    CallsR Tryz.prog 18 #[.int .i64 z] W (fun _ : Unit => str (numS (nrm z 2))) (fun _ => True) (fun _ => []) := by
  refine calls_enter (args := [.int .i64 z]) Tryz.func18 rfl rfl rfl ?_
  refine zA ?_
  refine zB ?_
  refine wl_pure Tryz.hT rfl rfl rfl ?_
  refine wl_nil ?_
  refine zE ?_
  refine zA ?_
  refine zB ?_
  refine wl_pure Tryz.hT rfl rfl rfl ?_
  refine wl_call1 rfl rfl rfl rfl rfl rfl (by kernel_rfl) (fun W hp => (rof_gives z 2 hz (by decide) W (ht.hp hp)).cast (by rw [ofR, if_neg (by decide)])) ?_
  iterate 5 refine wl_pure Tryz.hT rfl rfl rfl ?_
  refine wl_nil ?_
  refine zE ?_
  refine zA ?_
  refine zB ?_
  iterate 2 refine wl_pure Tryz.hT rfl rfl rfl ?_
  refine wl_nil ?_
  refine zE ?_
  refine zO ?_
  exact ne_ret1 Tryz.hT rfl (.tmp rfl) () rfl trivial fun W _ => NewBx.nil _ _
theorem badd_gives (p q : Rat) (h : Sz2 p q) (W : World) (hv : MaxP W) (ht : TabP W) :
    CallsR Tryz.prog 66 #[str (numS p), str (numS q)] W (fun _ : Unit => str (numS (p + q))) (fun _ => True) (fun _ => []) := by
  refine calls_enter (args := [str (numS p), str (numS q)]) Tryz.func66 rfl rfl rfl ?_
  refine zA ?_
  refine zB ?_
  refine wl_pure Tryz.hT rfl rfl rfl ?_
  refine wl_nil ?_
  refine zE ?_
  refine zA ?_
  refine zB ?_
  iterate 2 refine wl_pure Tryz.hT rfl rfl rfl ?_
  refine wl_call1 rfl rfl rfl rfl rfl rfl (by kernel_rfl) (fun W hp => radd_gives p q h W (hv.hp hp) (ht.hp hp)) ?_
  iterate 5 refine wl_pure Tryz.hT rfl rfl rfl ?_
  refine wl_nil ?_
  refine zE ?_
  refine zA ?_
  refine zB ?_
  iterate 2 refine wl_pure Tryz.hT rfl rfl rfl ?_
  refine wl_nil ?_
  refine zE ?_
  refine zO ?_
  exact ne_ret1 Tryz.hT rfl (.tmp rfl) () rfl trivial fun W _ => NewBx.nil _ _
theorem bsub_gives (p q : Rat) (h : Sz2 p q) (W : World) (hv : MaxP W) (ht : TabP W) :
    CallsR Tryz.prog 59 #[str (numS p), str (numS q)] W (fun _ : Unit => str (numS (p - q))) (fun _ => True) (fun _ => []) := by
  refine calls_enter (args := [str (numS p), str (numS q)]) Tryz.func59 rfl rfl rfl ?_
  refine zA ?_
  refine zB ?_
  refine wl_pure Tryz.hT rfl rfl rfl ?_
  refine wl_nil ?_
  refine zE ?_
  refine zA ?_
  refine zB ?_
  iterate 2 refine wl_pure Tryz.hT rfl rfl rfl ?_
  refine wl_call1 rfl rfl rfl rfl rfl rfl (by kernel_rfl) (fun W hp => rsub_gives p q h W (hv.hp hp) (ht.hp hp)) ?_
  iterate 5 refine wl_pure Tryz.hT rfl rfl rfl ?_
  refine wl_nil ?_
  refine zE ?_
  refine zA ?_
  refine zB ?_
  iterate 2 refine wl_pure Tryz.hT rfl rfl rfl ?_
  refine wl_nil ?_
  refine zE ?_
  refine zO ?_
  exact ne_ret1 Tryz.hT rfl (.tmp rfl) () rfl trivial fun W _ => NewBx.nil _ _
theorem bmul_gives (p q : Rat) (h : Sz2 p q) (W : World) (hv : MaxP W) (ht : TabP W) :
    CallsR Tryz.prog 72 #[str (numS p), str (numS q)] W (fun _ : Unit => str (numS (p * q))) (fun _ => True) (fun _ => []) := by
  refine calls_enter (args := [str (numS p), str (numS q)]) Tryz.func72 rfl rfl rfl ?_
  refine zA ?_
  refine zB ?_
  refine wl_pure Tryz.hT rfl rfl rfl ?_
  refine wl_nil ?_
  refine zE ?_
  refine zA ?_
  refine zB ?_
  iterate 2 refine wl_pure Tryz.hT rfl rfl rfl ?_
  refine wl_call1 rfl rfl rfl rfl rfl rfl (by kernel_rfl) (fun W hp => rmul_gives p q h W (hv.hp hp) (ht.hp hp)) ?_
  iterate 5 refine wl_pure Tryz.hT rfl rfl rfl ?_
  refine wl_nil ?_
  refine zE ?_
  refine zA ?_
  refine zB ?_
  iterate 2 refine wl_pure Tryz.hT rfl rfl rfl ?_
  refine wl_nil ?_
  refine zE ?_
  refine zO ?_
  exact ne_ret1 Tryz.hT rfl (.tmp rfl) () rfl trivial fun W _ => NewBx.nil _ _
theorem bdiv_gives (p q : Rat) (h : Sz2 p q) (h0 : q.num ≠ 0) (W : World) (hv : MaxP W) (ht : TabP W) :
    CallsR Tryz.prog 67 #[str (numS p), str (numS q)] W (fun _ : Unit => str (numS (p / q))) (fun _ => True) (fun _ => []) := by
  refine calls_enter (args := [str (numS p), str (numS q)]) Tryz.func67 rfl rfl rfl ?_
  refine zA ?_
  refine zB ?_
  refine wl_pure Tryz.hT rfl rfl rfl ?_
  refine wl_nil ?_
  refine zE ?_
  refine zA ?_
  refine zB ?_
  iterate 2 refine wl_pure Tryz.hT rfl rfl rfl ?_
  refine wl_call1 rfl rfl rfl rfl rfl rfl (by kernel_rfl) (fun W hp => (rdiv_gives p q h W (hv.hp hp) (ht.hp hp)).cast (by rw [divR, if_neg h0])) ?_
  iterate 5 refine wl_pure Tryz.hT rfl rfl rfl ?_
  refine wl_nil ?_
  refine zE ?_
  refine zA ?_
  refine zB ?_
  iterate 2 refine wl_pure Tryz.hT rfl rfl rfl ?_
  refine wl_nil ?_
  refine zE ?_
  refine zO ?_
  exact ne_ret1 Tryz.hT rfl (.tmp rfl) () rfl trivial fun W _ => NewBx.nil _ _
theorem bcompare_gives (p q : Rat) (h : Sz2 p q) (W : World) (hv : MaxP W) (ht : TabP W) :
    CallsR Tryz.prog 35 #[str (numS p), str (numS q)] W (fun _ : Unit => .int .i64 (cmpQ p q)) (fun _ => True) (fun _ => []) := by
  refine calls_enter (args := [str (numS p), str (numS q)]) Tryz.func35 rfl rfl rfl ?_
  refine zA ?_
  refine zB ?_
  refine wl_pure Tryz.hT rfl rfl rfl ?_
  refine wl_nil ?_
  refine zE ?_
  refine zA ?_
  refine zB ?_
  iterate 2 refine wl_pure Tryz.hT rfl rfl rfl ?_
  refine wl_call1 rfl rfl rfl rfl rfl rfl (by kernel_rfl) (fun W hp => (rcompare_gives p q h W (hv.hp hp) (ht.hp hp)).cast (by rw [cmpZ_Q])) ?_
  iterate 5 refine wl_pure Tryz.hT rfl rfl rfl ?_
  refine wl_nil ?_
  refine zE ?_
  refine zA ?_
  refine zB ?_
  iterate 2 refine wl_pure Tryz.hT rfl rfl rfl ?_
  refine wl_nil ?_
  refine zE ?_
  refine zO ?_
  exact ne_ret1 Tryz.hT rfl (.tmp rfl) () rfl trivial fun W _ => NewBx.nil _ _
end Go.Proofs.YtddadjbflgdomaaGreatDoor
namespace Go.Proofs.YtddadjbflgdomaaGreatDoor
/-- A number set into a sorted row, behind those that are no greater. -/
def insQ (x : Rat) : List Rat → List Rat
  | [] => [x]
  | y :: l => if x < y then x :: y :: l else y :: insQ x l
def sortQ (l : List Rat) : List Rat := l.foldl (fun s x => insQ x s) []
theorem insQ_len (x : Rat) : ∀ l, (insQ x l).length = l.length + 1
  | [] => rfl
  | y :: l => by
    unfold insQ
    split
    · rfl
    · simp [insQ_len x l]
theorem mem_insQ {x z : Rat} : ∀ {l}, z ∈ insQ x l ↔ z = x ∨ z ∈ l
  | [] => by simp [insQ]
  | y :: l => by
    unfold insQ
    split
    · simp
    · rw [List.mem_cons, mem_insQ, List.mem_cons]
      constructor
      · rintro (h | h | h)
        · exact .inr (.inl h)
        · exact .inl h
        · exact .inr (.inr h)
      · rintro (h | h | h)
        · exact .inr (.inl h)
        · exact .inl h
        · exact .inr (.inr h)
theorem insQ_sorted {x : Rat} : ∀ {l}, l.Pairwise (· ≤ ·) → (insQ x l).Pairwise (· ≤ ·)
  | [], _ => by simp [insQ]
  | y :: l, h => by
    have h2 := List.pairwise_cons.1 h
    unfold insQ
    split
    · rename_i hxy
      refine List.pairwise_cons.2 ⟨fun z hz => ?_, h⟩
      rcases List.mem_cons.1 hz with rfl | hz
      · exact Rat.le_of_lt hxy
      · exact Rat.le_trans (Rat.le_of_lt hxy) (h2.1 z hz)
    · rename_i hxy
      refine List.pairwise_cons.2 ⟨fun z hz => ?_, insQ_sorted h2.2⟩
      rcases mem_insQ.1 hz with rfl | hz
      · exact Rat.not_lt.1 hxy
      · exact h2.1 z hz
theorem sortQ_sorted (l : List Rat) : (sortQ l).Pairwise (· ≤ ·) := by
  have : ∀ (l s : List Rat), s.Pairwise (· ≤ ·) → (l.foldl (fun s x => insQ x s) s).Pairwise (· ≤ ·) := by
    intro l
    induction l with
    | nil => exact fun s h => h
    | cons x l ih => exact fun s h => ih _ (insQ_sorted h)
  exact this l [] List.Pairwise.nil
theorem mem_sortQ {z : Rat} {l : List Rat} : z ∈ sortQ l ↔ z ∈ l := by
  have : ∀ (l s : List Rat), z ∈ l.foldl (fun s x => insQ x s) s ↔ z ∈ l ∨ z ∈ s := by
    intro l
    induction l with
    | nil => exact fun s => by simp
    | cons x l ih =>
      intro s
      rw [List.foldl_cons, ih, mem_insQ, List.mem_cons]
      constructor
      · rintro (h | h | h)
        · exact .inl (.inr h)
        · exact .inl (.inl h)
        · exact .inr h
      · rintro ((h | h) | h)
        · exact .inr (.inl h)
        · exact .inl h
        · exact .inr (.inr h)
  rw [sortQ, this]; simp
end Go.Proofs.YtddadjbflgdomaaGreatDoor
namespace Go.Proofs.YtddadjbflgdomaaGreatDoor
/-- Compact: of equal neighbours the first stays. -/
def compQ : List Rat → List Rat
  | [] => []
  | [x] => [x]
  | x :: y :: l => if y = x then compQ (x :: l) else x :: compQ (y :: l)
termination_by l => l.length
theorem mem_compQ {z : Rat} (l : List Rat) : z ∈ compQ l ↔ z ∈ l := by
  fun_induction compQ l with
  | case1 => exact Iff.rfl
  | case2 x => exact Iff.rfl
  | case3 x l ih => rw [ih]; simp
  | case4 x y l h ih => rw [List.mem_cons, ih, List.mem_cons (b := x)]
end Go.Proofs.YtddadjbflgdomaaGreatDoor
namespace Go.Proofs.YtddadjbflgdomaaGreatDoor
theorem insQ_split {x : Rat} : ∀ (s : List Rat) (j : Nat), j ≤ s.length → (∀ y ∈ s.take j, ¬ x < y) → (∀ y ∈ s.drop j, x < y) → insQ x s = s.take j ++ x :: s.drop j
  | [], j, hj, _, _ => by
    obtain rfl : j = 0 := by simpa using hj
    rfl
  | y :: l, 0, _, _, h2 => by
    unfold insQ
    rw [if_pos (h2 y (List.mem_cons_self ..))]; rfl
  | y :: l, j + 1, hj, h1, h2 => by
    unfold insQ
    rw [if_neg (h1 y (by simp)), insQ_split l j (by simpa using hj) (fun z hz => h1 z (by simp [hz])) (fun z hz => h2 z (by simpa using hz))]
    rfl
theorem sortQ_len (l : List Rat) : (sortQ l).length = l.length := by
  have : ∀ (l s : List Rat), (l.foldl (fun s x => insQ x s) s).length = l.length + s.length := by
    intro l
    induction l with
    | nil => exact fun s => by simp
    | cons x l ih => exact fun s => by rw [List.foldl_cons, ih, insQ_len, List.length_cons]; omega
  rw [sortQ, this]; simp
theorem sortQ_take (l : List Rat) {i : Nat} (hi : i < l.length) : sortQ (l.take (i + 1)) = insQ l[i] (sortQ (l.take i)) := by
  rw [sortQ, List.take_add_one, List.getElem?_eq_getElem hi, List.foldl_append]; rfl
/-- Behind an insertion's last round. -/
theorem ins_done {x : Rat} {s : List Rat} {j : Nat} (hs : s.Pairwise (· ≤ ·)) (hj : j ≤ s.length) (h2 : ∀ y ∈ s.drop j, x < y) (h1 : ∀ (h : 0 < j), ¬ x < s[j - 1]) : insQ x s = s.take j ++ x :: s.drop j := by
  refine insQ_split s j hj (fun y hy => ?_) h2
  obtain ⟨k, hk, rfl⟩ := List.getElem_of_mem hy
  have hk' : k < j := by simp at hk; omega
  rw [List.getElem_take]
  have h3 := h1 (by omega)
  refine Rat.not_lt.2 (Rat.le_trans ?_ (Rat.not_lt.1 h3))
  by_cases e : k = j - 1
  · subst e; exact Rat.le_refl
  · exact List.pairwise_iff_getElem.1 hs k (j - 1) (by omega) (by omega) (by omega)
theorem compQ_nil : compQ [] = [] := by rw [compQ]
theorem compQ_one (x : Rat) : compQ [x] = [x] := by rw [compQ]
theorem compQ_cons (x y : Rat) (l : List Rat) : compQ (x :: y :: l) = if y = x then compQ (x :: l) else x :: compQ (y :: l) := by rw [compQ]
theorem compQ_two (x y : Rat) : compQ [x, y] = if y = x then compQ [x] else compQ [x] ++ [y] := by
  rw [compQ_cons]
  by_cases h : y = x
  · rw [if_pos h, if_pos h]
  · rw [if_neg h, if_neg h, compQ_one, compQ_one]; rfl
theorem compQ_snoc (l : List Rat) (x y : Rat) : compQ (l ++ [x, y]) = if y = x then compQ (l ++ [x]) else compQ (l ++ [x]) ++ [y] := by
  match l with
  | [] => exact compQ_two x y
  | [a] =>
    show compQ (a :: x :: [y]) = if y = x then compQ (a :: x :: []) else compQ (a :: x :: []) ++ [y]
    rw [compQ_cons a x [y], compQ_cons a x []]
    by_cases h2 : x = a
    · rw [if_pos h2, if_pos h2]
      subst h2
      exact compQ_two x y
    · rw [if_neg h2, if_neg h2, compQ_two x y]
      by_cases h : y = x
      · rw [if_pos h, if_pos h]
      · rw [if_neg h, if_neg h]; rfl
  | a :: b :: l =>
    show compQ (a :: b :: (l ++ [x, y])) = if y = x then compQ (a :: b :: (l ++ [x])) else compQ (a :: b :: (l ++ [x])) ++ [y]
    rw [compQ_cons a b (l ++ [x, y]), compQ_cons a b (l ++ [x])]
    by_cases h2 : b = a
    · rw [if_pos h2, if_pos h2]
      exact compQ_snoc (a :: l) x y
    · rw [if_neg h2, if_neg h2]
      have := compQ_snoc (b :: l) x y
      rw [List.cons_append, List.cons_append] at this
      rw [this]
      by_cases h : y = x
      · rw [if_pos h, if_pos h]
      · rw [if_neg h, if_neg h]; rfl
termination_by l.length
theorem upTo_comp (l : List Rat) : ∀ (m : Nat), m ≤ l.length → Lib.compactUpTo (l.map numS).toArray m = (compQ (l.take m)).map numS
  | 0, _ => by simp [Lib.compactUpTo, compQ]
  | m + 1, hm => by
    have hb : ∀ i (hi : i < l.length), (l.map numS).toArray[i]! = numS l[i] := fun i hi => by simp [hi]
    rw [Lib.compactUpTo_succ, upTo_comp l m (by omega), hb m (by omega)]
    have e1 : l.take (m + 1) = l.take m ++ [l[m]] := by rw [List.take_add_one, List.getElem?_eq_getElem hm]; rfl
    cases m with
    | zero =>
      rw [e1]
      have : Lib.keeps (l.map numS).toArray 0 = true := Lib.keeps_lt_one _ 0 (by omega)
      rw [if_pos this, List.take_zero, List.nil_append, compQ_nil, compQ_one]
      rfl
    | succ k =>
      have e2 : l.take (k + 1) = l.take k ++ [l[k]] := by rw [List.take_add_one, List.getElem?_eq_getElem (by omega)]; rfl
      rw [e1, e2, List.append_assoc]
      show _ = (compQ (l.take k ++ [l[k], l[k + 1]])).map numS
      rw [compQ_snoc]
      have h1 : Lib.keeps (l.map numS).toArray (k + 1) = decide (¬ l[k + 1] = l[k]) := by
        unfold Lib.keeps
        rw [decide_eq_decide, Nat.add_sub_cancel, hb (k + 1) hm, hb k (by omega)]
        constructor
        · rintro (h | h)
          · omega
          · exact fun e => h (by rw [e])
        · exact fun h => .inr fun e => h (numS_inj.1 e)
      rw [h1]
      by_cases h : l[k + 1] = l[k]
      · rw [if_pos h, if_neg (by simp [h]), List.append_nil]
      · rw [if_neg h, if_pos (by simp [h]), List.map_append]; rfl
theorem compact_comp (l : List Rat) : Lib.compact (l.map numS) = (compQ l).map numS := by
  have := upTo_comp l l.length (Nat.le_refl _)
  rw [List.take_length] at this
  rw [← this]
  unfold Lib.compact
  simp
end Go.Proofs.YtddadjbflgdomaaGreatDoor
namespace Go.Proofs
open Go.Shelf
def Tryz.lays125_ren : Go.Shelf.Ren := ⟨fun | 125 => 70 | 128 => 111 | 129 => 112 | n => n, fun | 3 => 3 | 4 => 4 | 5 => 5 | 9 => 9 | 46 => 111 | 51 => 154 | 53 => 156 | n => n, fun n => n⟩
theorem Tryz.lays125 : Go.Proofs.Lays.n125 Tryz.prog Tryz.lays125_ren := {
  mixed := by kernel_rfl
  f125 := Tryz.func70.trans (congrArg some (by kernel_rfl))
  f128 := Tryz.func111.trans (congrArg some (by kernel_rfl))
  f129 := Tryz.func112.trans (congrArg some (by kernel_rfl))
  t3 := Tryz.underlying3
  a3 := Tryz.isAgg3
  z3 := Tryz.sizeOf3
  v3 := Tryz.zeroValue3
  t4 := Tryz.underlying4
  a4 := Tryz.isAgg4
  z4 := Tryz.sizeOf4
  v4 := Tryz.zeroValue4
  t5 := Tryz.underlying5
  a5 := Tryz.isAgg5
  z5 := Tryz.sizeOf5
  v5 := Tryz.zeroValue5
  t9 := Tryz.underlying9
  a9 := Tryz.isAgg9
  z9 := Tryz.sizeOf9
  v9 := Tryz.zeroValue9
  t46 := Tryz.underlying111
  a46 := Tryz.isAgg111
  z46 := Tryz.sizeOf111
  v46 := Tryz.zeroValue111
  t51 := Tryz.underlying154
  a51 := Tryz.isAgg154
  z51 := Tryz.sizeOf154
  v51 := Tryz.zeroValue154
  t53 := Tryz.underlying156
  a53 := Tryz.isAgg156
  z53 := Tryz.sizeOf156
  v53 := Tryz.zeroValue156 }
def Tryz.laysN44_ren : Go.Shelf.Ren := ⟨fun | 44 => 65 | n => n, fun | 0 => 0 | 3 => 3 | 4 => 4 | 25 => 66 | 26 => 27 | n => n, fun n => n⟩
theorem Tryz.laysN44 : Go.Proofs.SlLaysN.n44 Tryz.prog Tryz.laysN44_ren := {
  mixed := by kernel_rfl
  f44 := ⟨Tryz.f65.name, by kernel_rfl, Tryz.func65.trans (congrArg some (by kernel_rfl))⟩
  t0 := Tryz.underlying0
  a0 := Tryz.isAgg0
  z0 := Tryz.sizeOf0
  v0 := Tryz.zeroValue0
  t3 := Tryz.underlying3
  a3 := Tryz.isAgg3
  z3 := Tryz.sizeOf3
  v3 := Tryz.zeroValue3
  t4 := Tryz.underlying4
  a4 := Tryz.isAgg4
  z4 := Tryz.sizeOf4
  v4 := Tryz.zeroValue4
  t25 := Tryz.underlying66
  a25 := Tryz.isAgg66
  z25 := Tryz.sizeOf66
  v25 := Tryz.zeroValue66
  t26 := Tryz.underlying27
  a26 := Tryz.isAgg27
  z26 := Tryz.sizeOf27
  v26 := Tryz.zeroValue27
  i26 := by kernel_rfl }
end Go.Proofs
namespace Go.Proofs.YtddadjbflgdomaaGreatDoor
open Go Go.RowKit Go.Am Go.Lib
set_option maxRecDepth 10000
-- BOXES 3
/-- Numbers in memory. -/
abbrev nS (l : List Rat) : List Value := l.map fun q => str (numS q)
/-- A function that compares two numbers. -/
def CmpOK (cf : Nat) : Prop := entersB Tryz.prog cf = true ∧ ∀ (p q : Rat) (W : World), Sz2 p q → MaxP W → TabP W → CallsR Tryz.prog cf #[str (numS p), str (numS q)] W (fun _ : Unit => .int .i64 (cmpQ p q)) (fun _ => True) (fun _ => [])
/-- All blocks of W but one are as they were. -/
structure Keep (W W' : World) (g : Nat) : Prop where
  os : W'.os = W.os
  tape : W'.tape = W.tape
  output : W'.output = W.output
  size : W.heap.size ≤ W'.heap.size
  at_ : ∀ x, x ≠ g → x < W.heap.size → W'.heap[x]? = W.heap[x]?
theorem keep_of {W W' : World} {g : Nat} {B : Bx} {o : Obj} (hg : W.heap[g]? = some o) (hB : ∃ o', (g, o') ∈ B.blk) (hp : Hp (noHeap W) [grpB (othersL W g), B] W') : Keep W W' g := by
  have c0 : ∀ p ∈ othersL W g, W'.heap[p.1]? = some p.2 := fun p hq => (hp.own.cell 0 _ rfl p hq).1
  have old : ∀ x, x ≠ g → x < W.heap.size → W'.heap[x]? = W.heap[x]? := fun x hx hlt => by
    have h1 : W.heap[x]? = some W.heap[x] := Array.getElem?_eq_getElem hlt
    rw [h1]
    exact c0 (x, W.heap[x]) (mem_others.2 ⟨hx, h1⟩)
  refine ⟨hp.below.os, hp.below.tape, hp.below.output, ?_, old⟩
  have hlt := (Array.getElem?_eq_some_iff.1 hg).1
  by_cases e : W.heap.size - 1 = g
  · obtain ⟨o', ho⟩ := hB
    have := (Array.getElem?_eq_some_iff.1 (hp.own.cell 1 B rfl _ ho).1).1
    have h2 : g < W'.heap.size := this
    omega
  · have h1 := old (W.heap.size - 1) e (by omega)
    rw [Array.getElem?_eq_getElem (show W.heap.size - 1 < W.heap.size by omega)] at h1
    have := (Array.getElem?_eq_some_iff.1 h1).1
    omega
theorem Keep.trans {W W1 W2 : World} {g : Nat} (h : Keep W W1 g) (h' : Keep W1 W2 g) : Keep W W2 g :=
  ⟨h'.os.trans h.os, h'.tape.trans h.tape, h'.output.trans h.output, Nat.le_trans h.size h'.size, fun x hx hlt => (h'.at_ x hx (Nat.lt_of_lt_of_le hlt h.size)).trans (h.at_ x hx hlt)⟩
theorem Keep.below {W0 W W' : World} {g : Nat} (hk : Keep W W' g) (hb : Below W0.heap.size W0 W) (hg : W0.heap.size ≤ g) : Below W0.heap.size W0 W' :=
  ⟨hk.os.trans hb.os, hk.tape.trans hb.tape, hk.output.trans hb.output, Nat.le_trans hb.size hk.size, fun i hi => (hk.at_ i (by omega) (Nat.lt_of_lt_of_le hi hb.size)).trans (hb.block i hi)⟩
theorem row_pt {W0 W : World} {bxs : List Bx} (hp : Hp W0 bxs W) (k : Nat) {g : Nat} {e : TypeId} {xs A B C : List Value} {off : Nat} (hk : nth bxs k = some ⟨g, e, xs, true, none⟩) (hxs : xs = A ++ (B ++ C)) (hoff : off = A.length) : RowAt W g off B := by
  have h := RowAt.of_bx hp k hk rfl
  refine ⟨h.lt, fun m u hu => ?_⟩
  have := h.get (A.length + m) u (by
    show xs[A.length + m]? = some u
    rw [hxs, List.getElem?_append_right (by omega), Nat.add_sub_cancel_left, List.getElem?_append_left (List.getElem?_eq_some_iff.1 hu).1]
    exact hu)
  rw [Nat.zero_add, ← hoff] at this
  exact this
theorem wc_bx {r : Option Nat} {n : Nat} {P : Program} {W0 : World} {N : Nat} {D : List Deferred} {c : Code} {Q : Exit → Act → World → Prop} {env : Env} {bxs bxs' : List Bx} (e : bxs = bxs') (h : WC r n P N D c Q env (Hp W0 bxs')) : WC r n P N D c Q env (Hp W0 bxs) := e ▸ h
/-- The row of a sort. -/
abbrev rowQ (g : Nat) (l : List Rat) (junk : List Value) : Bx := ⟨g, 27, nS l ++ junk, true, none⟩
theorem take1_sort (l : List Rat) : sortQ (l.take 1) ++ l.drop 1 = l := by
  cases l with
  | nil => rfl
  | cons x l => rfl
set_option maxHeartbeats 8000000 in
theorem insN_gives (cf : Nat) (hcf : CmpOK cf) (W : World) (g cap : Nat) (l : List Rat) (junk : List Value) (hn : l.length < 4611686018427387904) (hg : W.heap[g]? = some (.cells (nS l ++ junk).toArray 27 (0, 0)))
    (hf : ∀ W', Keep W W' g → MaxP W' ∧ TabP W') (hz : ∀ p ∈ l, ∀ q ∈ l, Sz2 p q) :
    Calls Tryz.prog 103 #[.slice (some ⟨g, 0, none⟩) l.length cap, .int .i64 0, .int .i64 (l.length : Nat), .func (.func cf) #[] #[]] W fun e W' => ∃ x : Unit, e = .returned ((fun _ => .tuple #[]) x) ∧ True ∧ Near W W' g ((fun _ => g) x) ((fun _ => .cells (nS (sortQ l) ++ junk).toArray 27 (0, 0)) x) := by
  have key : Calls Tryz.prog 103 [.slice (some ⟨g, 0, none⟩) l.length cap, .int .i64 0, .int .i64 (l.length : Nat), .func (.func cf) #[] #[]].toArray W fun e W' => ∃ x : Unit, e = .returned ((fun _ => .tuple #[]) x) ∧ (fun _ => True) x ∧ Below (noHeap W).heap.size (noHeap W) W' ∧ NewBx (noHeap W) W' ((fun _ => [grpB (othersL W g), rowQ g (sortQ l) junk]) x) := by
    refine calls_enterT (X := Unit) (val := fun _ => .tuple #[]) (Φ := fun _ => True) (nb := fun _ => [grpB (othersL W g), rowQ g (sortQ l) junk]) (Hp.enterT (B := rowQ g l junk) rfl hg) Tryz.func103 rfl rfl rfl ?_
    refine zA ?_
    refine zB ?_
    iterate 3 refine wl_pure Tryz.hT rfl rfl rfl ?_
    refine wl_nil ?_
    refine zE ?_
    refine zH ?_
    refine wc_loop (X := Nat) (fun i => [(0, .slice (some ⟨g, 0, none⟩) l.length cap), (1, .int .i64 0), (2, .int .i64 (l.length : Nat)), (3, .func (.func cf) #[] #[]), (8, .int .i64 (i : Nat))]) (fun i => [grpB (othersL W g), rowQ g (sortQ (l.take i) ++ l.drop i) junk])
      (fun i => 1 ≤ i ∧ (i ≤ l.length ∨ i = 1)) (fun i => l.length + 1 - i) 1 ⟨Nat.le_refl _, .inr rfl⟩ ⟨rfl, rfl, rfl, rfl, rfl, trivial⟩ [] (by rw [take1_sort]; rfl) ?_
    rintro i ⟨hi1, hi2⟩
    iterate 2 refine zA ?_
    refine zB ?_
    iterate 3 refine wl_pure Tryz.hT rfl rfl rfl ?_
    by_cases hlt : i < l.length
    rotate_left
    · refine wl_upd 14 (.bool false) rfl (congrArg Value.bool (decide_eq_false (by omega))) ?_
      refine wl_nil ?_
      refine zE ?_
      refine zS rfl ?_
      refine zJ ?_
      iterate 2 refine zK ?_
      refine zL ?_
      have e : sortQ (l.take i) ++ l.drop i = sortQ l := by rw [List.take_of_length_le (by omega), List.drop_of_length_le (by omega), List.append_nil]
      refine ne_end0 (X := Unit) (val := fun _ => .tuple #[]) (Φ := fun _ => True) (nb := fun _ => [grpB (othersL W g), rowQ g (sortQ l) junk]) (fn := Tryz.f103) Tryz.hT rfl () rfl trivial fun W1 hp => ?_
      rw [e] at hp
      exact (hp.pick (l := [grpB (othersL W g), rowQ g (sortQ l) junk]) [0, 1] (by decide) rfl).own
    refine wl_upd 14 (.bool true) rfl (congrArg Value.bool (decide_eq_true (by omega))) ?_
    refine wl_nil ?_
    refine zE ?_
    refine zR rfl ?_
    refine zI ?_
    refine zE ?_
    refine zA ?_
    refine zH ?_
    refine zA ?_
    refine zB ?_
    iterate 2 refine wl_pure Tryz.hT rfl rfl rfl ?_
    refine wl_nil ?_
    refine zE ?_
    refine zH ?_
    obtain ⟨s, hs⟩ : ∃ s, s = sortQ (l.take i) := ⟨_, rfl⟩
    obtain ⟨x, hx⟩ : ∃ x, x = l[i] := ⟨_, rfl⟩
    obtain ⟨rr, hr⟩ : ∃ rr, rr = l.drop (i + 1) := ⟨_, rfl⟩
    have hsl : s.length = i := by rw [hs, sortQ_len, List.length_take]; omega
    have hsort : s.Pairwise (· ≤ ·) := hs ▸ sortQ_sorted _
    have hdrop : l.drop i = x :: rr := by rw [hx, hr]; exact List.drop_eq_getElem_cons hlt
    have hrl : rr.length = l.length - (i + 1) := by rw [hr, List.length_drop]
    have hxl : x ∈ l := hx ▸ List.getElem_mem hlt
    have hsm : ∀ y ∈ s, y ∈ l := fun y hy => by rw [hs] at hy; exact List.mem_of_mem_take (mem_sortQ.1 hy)
    have hnext : ∀ j, j ≤ s.length → (∀ y ∈ s.drop j, x < y) → (∀ (h : 0 < j), ¬ x < s[j - 1]!) → s.take j ++ x :: s.drop j ++ rr = sortQ (l.take (i + 1)) ++ l.drop (i + 1) := fun j h1 h2 h3 => by
      rw [sortQ_take l hlt, ← hs, ← hx, ← hr, ins_done hsort h1 h2 fun h => by have := h3 h; rwa [getElem!_pos s (j - 1) (by omega)] at this]
    refine wc_loop (X := Nat) (fun j => [(0, .slice (some ⟨g, 0, none⟩) l.length cap), (1, .int .i64 0), (2, .int .i64 (l.length : Nat)), (3, .func (.func cf) #[] #[]), (8, .int .i64 (i : Nat)), (9, .int .i64 (j : Nat))]) (fun j => [grpB (othersL W g), rowQ g (s.take j ++ x :: s.drop j ++ rr) junk])
      (fun j => j ≤ s.length ∧ ∀ y ∈ s.drop j, x < y) (fun j => j) i ⟨by omega, by rw [← hsl, List.drop_length]; exact fun y hy => absurd hy List.not_mem_nil⟩ ⟨rfl, rfl, rfl, rfl, rfl, rfl, trivial⟩ [] (by rw [← hs, hdrop, ← hsl, List.take_length, List.drop_length, List.append_assoc]; rfl) ?_
    rintro j ⟨hj, hgt⟩
    have hj : j ≤ s.length := hj
    have hgt : ∀ y ∈ s.drop j, x < y := hgt
    iterate 2 refine zA ?_
    refine zT Tryz.mixed (by kernel_rfl) ?_
    iterate 3 refine wq_pure Tryz.hT rfl rfl rfl ?_
    cases j with
    | zero =>
      refine wq_upd 20 (.bool false) rfl rfl ?_
      refine wq_pure Tryz.hT rfl rfl rfl ?_
      iterate 12 refine wq_skip rfl rfl ?_
      refine wq_pure Tryz.hT rfl rfl rfl ?_
      refine wq_nil ?_
      refine wl_nil ?_
      refine zE ?_
      refine zS rfl ?_
      refine zJ ?_
      iterate 2 refine zK ?_
      refine zL ?_
      refine zN ?_
      refine zE ?_
      refine zB ?_
      iterate 2 refine wl_pure Tryz.hT rfl rfl rfl ?_
      refine wl_upd 16 (.int .i64 ((i + 1 : Nat) : Int)) rfl (congrArg (Value.int .i64) (w64_succ (by omega))) ?_
      refine wl_pure Tryz.hT rfl rfl rfl ?_
      refine wl_nil ?_
      refine ne_loop (i + 1) ⟨by show 1 ≤ i + 1; omega, .inl hlt⟩ (by show l.length + 1 - (i + 1) < l.length + 1 - i; omega) ⟨rfl, rfl, rfl, rfl, rfl, trivial⟩ [] ?_
      rw [hnext 0 hj hgt fun h => absurd h (by decide)]; rfl
    | succ m =>
      have hm : m < s.length := hj
      obtain ⟨y, hy⟩ : ∃ y, y = s[m] := ⟨_, rfl⟩
      have hyl : y ∈ l := hsm y (hy ▸ List.getElem_mem hm)
      have e1 : s.take (m + 1) = s.take m ++ [y] := by rw [List.take_add_one, List.getElem?_eq_getElem hm, hy]; rfl
      have e2 : s.drop m = y :: s.drop (m + 1) := by rw [hy]; exact List.drop_eq_getElem_cons hm
      have e3 : s[m + 1 - 1]! = y := by rw [Nat.add_sub_cancel, getElem!_pos s m hm, hy]
      have hA : (nS (s.take m)).length = m := by rw [List.length_map, List.length_take]; omega
      obtain ⟨C, hC⟩ : ∃ C, C = nS (s.drop (m + 1) ++ rr) ++ junk := ⟨_, rfl⟩
      have row1 : nS (s.take (m + 1) ++ x :: s.drop (m + 1) ++ rr) ++ junk = nS (s.take m) ++ ([str (numS y), str (numS x)] ++ C) := by rw [e1, hC]; simp [nS]
      have row2 : nS (s.take m ++ x :: s.drop m ++ rr) ++ junk = nS (s.take m) ++ ([str (numS x), str (numS y)] ++ C) := by rw [e2, hC]; simp [nS]
      refine wq_upd 20 (.bool true) rfl (congrArg Value.bool (decide_eq_true (by omega))) ?_
      iterate 4 refine wq_pure Tryz.hT rfl rfl rfl ?_
      refine wq_indexAddr Tryz.hT rfl rfl rfl rfl rfl rfl rfl (by omega) (by omega) ?_
      refine wq_load rfl rfl rfl rfl (fun W hp => RowAt.load 0 Tryz.hT rfl ((fun W1 hp => show RowAt W1 g (0 + (m + 1) * 1) [str (numS x)] from row_pt hp 1 (A := nS (s.take m) ++ [str (numS y)]) (C := C) rfl (by rw [row1]; simp) (by rw [List.length_append, hA]; simp)) W hp) rfl) ?_
      iterate 3 refine wq_pure Tryz.hT rfl rfl rfl ?_
      refine wq_upd 29 (.int .i64 (m : Nat)) rfl (congrArg (Value.int .i64) (show w64 (((m + 1 : Nat) : Int) - 1) = _ by rw [w64_id (by omega) (by omega)]; omega)) ?_
      refine wq_indexAddr Tryz.hT rfl rfl rfl rfl rfl rfl rfl (by omega) (by omega) ?_
      refine wq_load rfl rfl rfl rfl (fun W hp => RowAt.load 0 Tryz.hT rfl ((fun W1 hp => show RowAt W1 g (0 + m * 1) [str (numS y)] from row_pt hp 1 (A := nS (s.take m)) (C := [str (numS x)] ++ C) rfl (by rw [row1]; simp) (by rw [hA]; simp)) W hp) rfl) ?_
      refine wq_call1 (capt := []) rfl rfl rfl rfl rfl rfl hcf.1 (fun W1 hp => (by
        obtain ⟨hv, ht⟩ := hf W1 (keep_of hg ⟨_, List.mem_cons_self ..⟩ hp)
        exact hcf.2 x y W1 (hz x hxl y hyl) hv ht)) ?_
      refine wq_pure Tryz.hT rfl rfl rfl ?_
      refine wq_upd 33 (.bool (decide (x < y))) rfl (congrArg Value.bool (cmpQ_lt0 x y)) ?_
      refine wq_pure Tryz.hT rfl rfl rfl ?_
      refine wq_nil ?_
      refine wl_nil ?_
      refine zE ?_
      refine wc_cond rfl (fun h => ?_) (fun h => ?_)
      rotate_left
      · have hc : ¬ x < y := of_decide_eq_false h
        refine zJ ?_
        iterate 2 refine zK ?_
        refine zL ?_
        refine zN ?_
        refine zE ?_
        refine zB ?_
        iterate 2 refine wl_pure Tryz.hT rfl rfl rfl ?_
        refine wl_upd 16 (.int .i64 ((i + 1 : Nat) : Int)) rfl (congrArg (Value.int .i64) (w64_succ (by omega))) ?_
        refine wl_pure Tryz.hT rfl rfl rfl ?_
        refine wl_nil ?_
        refine ne_loop (i + 1) ⟨by show 1 ≤ i + 1; omega, .inl hlt⟩ (by show l.length + 1 - (i + 1) < l.length + 1 - i; omega) ⟨rfl, rfl, rfl, rfl, rfl, trivial⟩ [] ?_
        rw [hnext (m + 1) hj hgt fun _ => by rw [e3]; exact hc]; rfl
      have hc : x < y := of_decide_eq_true h
      clear h
      refine wc_bx (bxs' := [grpB (othersL W g), ⟨g, 27, nS (s.take m) ++ ([str (numS y), str (numS x)] ++ C), true, none⟩]) (by rw [← row1]) ?_
      refine zI ?_
      refine zE ?_
      refine wc_seq ?_
      refine wc_block ?_
      repeat refine wc_seq ?_
      refine wc_lateY (X := Unit) [true, true, false, false, false, true, true, true, true, true, true, true, true, true, true, false, false, false] (fun _ => [(0, .slice (some ⟨g, 0, none⟩) l.length cap), (1, .int .i64 0), (2, .int .i64 (l.length : Nat)), (3, .func (.func cf) #[] #[]), (8, .int .i64 (i : Nat)), (9, .int .i64 ((m + 1 : Nat) : Int))]) (fun _ => [grpB (othersL W g), ⟨g, 27, nS (s.take m) ++ ([str (numS x), str (numS y)] ++ C), true, none⟩])
        6 [grpB (othersL W g), ⟨g, 27, nS (s.take m) ++ ([str (numS y), str (numS x)] ++ C), true, none⟩] Tryz.mixed (by kernel_rfl) ?_ ?_
      · refine wq_pure Tryz.hT rfl rfl rfl ?_
        iterate 4 refine wq_pure Tryz.hT rfl rfl rfl ?_
        refine wq_upd 44 (.int .i64 (m : Nat)) rfl (congrArg (Value.int .i64) (show w64 (((m + 1 : Nat) : Int) - 1) = _ by rw [w64_id (by omega) (by omega)]; omega)) ?_
        refine wq_indexAddr Tryz.hT rfl rfl rfl rfl rfl rfl rfl (by omega) (by omega) ?_
        refine wq_load rfl rfl rfl rfl (fun W hp => RowAt.load 0 Tryz.hT rfl ((fun W1 hp => show RowAt W1 g (0 + m * 1) [str (numS y)] from row_pt hp 1 (A := nS (s.take m)) (C := [str (numS x)] ++ C) rfl (by simp) (by rw [hA]; simp)) W hp) rfl) ?_
        iterate 2 refine wq_pure Tryz.hT rfl rfl rfl ?_
        refine wq_indexAddr Tryz.hT rfl rfl rfl rfl rfl rfl rfl (by omega) (by omega) ?_
        refine wq_load rfl rfl rfl rfl (fun W hp => RowAt.load 0 Tryz.hT rfl ((fun W1 hp => show RowAt W1 g (0 + (m + 1) * 1) [str (numS x)] from row_pt hp 1 (A := nS (s.take m) ++ [str (numS y)]) (C := C) rfl (by simp) (by rw [List.length_append, hA]; simp)) W hp) rfl) ?_
        refine wq_indexAddr Tryz.hT rfl rfl rfl rfl rfl rfl rfl (by omega) (by omega) ?_
        refine wq_wt ?_
        have h1 : splice (nS (s.take m) ++ ([str (numS y), str (numS x)] ++ C)) (0 + (m + 1) * 1) (str (numS y)).cells.toList = nS (s.take m) ++ ([str (numS y), str (numS y)] ++ C) := by
          rw [show 0 + (m + 1) * 1 = (nS (s.take m)).length + 1 by rw [hA]; omega, splice_right]; rfl
        have h2 : splice (nS (s.take m) ++ ([str (numS y), str (numS y)] ++ C)) (0 + m * 1) (str (numS x)).cells.toList = nS (s.take m) ++ ([str (numS x), str (numS y)] ++ C) := by
          rw [show 0 + m * 1 = (nS (s.take m)).length + 0 by rw [hA]; omega, splice_right]; rfl
        refine wt_step rfl rfl (by ((repeat (first | refine Weak.same ?_ | refine Weak.off rfl ?_)); exact trivial)) ?_
        refine RS.cons ?_ (RS.cons ?_ (RS.cons ?_ (RS.nil)))
        · refine wl_pure Tryz.hT rfl rfl rfl ?_
          refine wl_nil ?_
          refine ne_wt ?_
          refine wt_step rfl rfl (by ((repeat (first | refine Weak.same ?_ | refine Weak.off rfl ?_)); exact trivial)) ?_
          refine RS.cons ?_ (RS.cons ?_ (RS.nil))
          · refine wl_pure Tryz.hT rfl rfl rfl ?_
            refine wl_nil ?_
            refine ne_wt ?_
            refine wt_step rfl rfl (by ((repeat (first | refine Weak.same ?_ | refine Weak.off rfl ?_)); exact trivial)) ?_
            refine RS.cons ?_ (RS.cons ?_ (RS.nil))
            · refine wl_pure Tryz.hT rfl rfl rfl ?_
              refine wl_nil ?_
              refine ne_wt ?_
              refine wt_step rfl rfl (by ((repeat (first | refine Weak.same ?_ | refine Weak.off rfl ?_)); exact trivial)) ?_
              refine RS.cons ?_ (RS.nil)
              refine wl_storeTo 1 _ Tryz.hT rfl rfl rfl rfl rfl rfl rfl rfl rfl rfl (by show 0 + (m + 1) * 1 + 1 ≤ (nS (s.take m) ++ ([str (numS y), str (numS x)] ++ C)).length; rw [List.length_append, hA]; simp <;> omega) h1 ?_
              refine wl_nil ?_
              refine ne_wt ?_
              refine wt_stepF rfl rfl (by kernel_rfl) ?_
              refine RS.cons ?_ (RS.nil)
              refine wl_upd 41 (.int .i64 (m : Nat)) rfl (congrArg (Value.int .i64) (show w64 (((m + 1 : Nat) : Int) - 1) = _ by rw [w64_id (by omega) (by omega)]; omega)) ?_; (first | refine wl_indexAddr Tryz.hT rfl rfl rfl rfl rfl rfl rfl (by omega) (by omega) ?_ | refine wq_indexAddr Tryz.hT rfl rfl rfl rfl rfl rfl rfl (by omega) (by omega) ?_)
              refine wl_nil ?_
              refine ne_wt ?_
              refine wt_stepF rfl rfl (by kernel_rfl) ?_
              refine RS.cons ?_ (RS.nil)
              refine wl_storeTo 1 _ Tryz.hT rfl rfl rfl rfl rfl rfl rfl rfl rfl rfl (by show 0 + m * 1 + 1 ≤ (nS (s.take m) ++ ([str (numS y), str (numS y)] ++ C)).length; rw [List.length_append, hA]; simp <;> omega) h2 ?_
              refine wl_nil ?_
              refine ne_wt ?_
              refine wt_doneF rfl (by kernel_rfl) ?_
              exact ne_late () ⟨rfl, rfl, rfl, rfl, rfl, rfl, trivial⟩ [0, 1] (by decide) rfl
            · refine wl_storeTo 1 _ Tryz.hT rfl rfl rfl rfl rfl rfl rfl rfl rfl rfl (by show 0 + (m + 1) * 1 + 1 ≤ (nS (s.take m) ++ ([str (numS y), str (numS x)] ++ C)).length; rw [List.length_append, hA]; simp <;> omega) h1 ?_
              refine wl_nil ?_
              refine ne_wt ?_
              refine wt_stepF rfl rfl (by kernel_rfl) ?_
              refine RS.cons ?_ (RS.nil)
              refine wl_pure Tryz.hT rfl rfl rfl ?_
              refine wl_nil ?_
              refine ne_wt ?_
              refine wt_stepF rfl rfl (by kernel_rfl) ?_
              refine RS.cons ?_ (RS.nil)
              refine wl_upd 41 (.int .i64 (m : Nat)) rfl (congrArg (Value.int .i64) (show w64 (((m + 1 : Nat) : Int) - 1) = _ by rw [w64_id (by omega) (by omega)]; omega)) ?_; (first | refine wl_indexAddr Tryz.hT rfl rfl rfl rfl rfl rfl rfl (by omega) (by omega) ?_ | refine wq_indexAddr Tryz.hT rfl rfl rfl rfl rfl rfl rfl (by omega) (by omega) ?_)
              refine wl_nil ?_
              refine ne_wt ?_
              refine wt_stepF rfl rfl (by kernel_rfl) ?_
              refine RS.cons ?_ (RS.nil)
              refine wl_storeTo 1 _ Tryz.hT rfl rfl rfl rfl rfl rfl rfl rfl rfl rfl (by show 0 + m * 1 + 1 ≤ (nS (s.take m) ++ ([str (numS y), str (numS y)] ++ C)).length; rw [List.length_append, hA]; simp <;> omega) h2 ?_
              refine wl_nil ?_
              refine ne_wt ?_
              refine wt_doneF rfl (by kernel_rfl) ?_
              exact ne_late () ⟨rfl, rfl, rfl, rfl, rfl, rfl, trivial⟩ [0, 1] (by decide) rfl
          · refine wl_storeTo 1 _ Tryz.hT rfl rfl rfl rfl rfl rfl rfl rfl rfl rfl (by show 0 + (m + 1) * 1 + 1 ≤ (nS (s.take m) ++ ([str (numS y), str (numS x)] ++ C)).length; rw [List.length_append, hA]; simp <;> omega) h1 ?_
            refine wl_nil ?_
            refine ne_wt ?_
            refine wt_stepF rfl rfl (by kernel_rfl) ?_
            refine RS.cons ?_ (RS.nil)
            refine wl_pure Tryz.hT rfl rfl rfl ?_
            refine wl_nil ?_
            refine ne_wt ?_
            refine wt_stepF rfl rfl (by kernel_rfl) ?_
            refine RS.cons ?_ (RS.nil)
            refine wl_pure Tryz.hT rfl rfl rfl ?_
            refine wl_nil ?_
            refine ne_wt ?_
            refine wt_stepF rfl rfl (by kernel_rfl) ?_
            refine RS.cons ?_ (RS.nil)
            refine wl_upd 41 (.int .i64 (m : Nat)) rfl (congrArg (Value.int .i64) (show w64 (((m + 1 : Nat) : Int) - 1) = _ by rw [w64_id (by omega) (by omega)]; omega)) ?_; (first | refine wl_indexAddr Tryz.hT rfl rfl rfl rfl rfl rfl rfl (by omega) (by omega) ?_ | refine wq_indexAddr Tryz.hT rfl rfl rfl rfl rfl rfl rfl (by omega) (by omega) ?_)
            refine wl_nil ?_
            refine ne_wt ?_
            refine wt_stepF rfl rfl (by kernel_rfl) ?_
            refine RS.cons ?_ (RS.nil)
            refine wl_storeTo 1 _ Tryz.hT rfl rfl rfl rfl rfl rfl rfl rfl rfl rfl (by show 0 + m * 1 + 1 ≤ (nS (s.take m) ++ ([str (numS y), str (numS y)] ++ C)).length; rw [List.length_append, hA]; simp <;> omega) h2 ?_
            refine wl_nil ?_
            refine ne_wt ?_
            refine wt_doneF rfl (by kernel_rfl) ?_
            exact ne_late () ⟨rfl, rfl, rfl, rfl, rfl, rfl, trivial⟩ [0, 1] (by decide) rfl
        · refine wl_pure Tryz.hT rfl rfl rfl ?_
          refine wl_nil ?_
          refine ne_wt ?_
          refine wt_step rfl rfl (by ((repeat (first | refine Weak.same ?_ | refine Weak.off rfl ?_)); exact trivial)) ?_
          refine RS.cons ?_ (RS.cons ?_ (RS.cons ?_ (RS.nil)))
          · refine wl_pure Tryz.hT rfl rfl rfl ?_
            refine wl_nil ?_
            refine ne_wt ?_
            refine wt_step rfl rfl (by ((repeat (first | refine Weak.same ?_ | refine Weak.off rfl ?_)); exact trivial)) ?_
            refine RS.cons ?_ (RS.cons ?_ (RS.nil))
            · refine wl_pure Tryz.hT rfl rfl rfl ?_
              refine wl_nil ?_
              refine ne_wt ?_
              refine wt_step rfl rfl (by ((repeat (first | refine Weak.same ?_ | refine Weak.off rfl ?_)); exact trivial)) ?_
              refine RS.cons ?_ (RS.nil)
              refine wl_storeTo 1 _ Tryz.hT rfl rfl rfl rfl rfl rfl rfl rfl rfl rfl (by show 0 + (m + 1) * 1 + 1 ≤ (nS (s.take m) ++ ([str (numS y), str (numS x)] ++ C)).length; rw [List.length_append, hA]; simp <;> omega) h1 ?_
              refine wl_nil ?_
              refine ne_wt ?_
              refine wt_stepF rfl rfl (by kernel_rfl) ?_
              refine RS.cons ?_ (RS.nil)
              refine wl_upd 41 (.int .i64 (m : Nat)) rfl (congrArg (Value.int .i64) (show w64 (((m + 1 : Nat) : Int) - 1) = _ by rw [w64_id (by omega) (by omega)]; omega)) ?_; (first | refine wl_indexAddr Tryz.hT rfl rfl rfl rfl rfl rfl rfl (by omega) (by omega) ?_ | refine wq_indexAddr Tryz.hT rfl rfl rfl rfl rfl rfl rfl (by omega) (by omega) ?_)
              refine wl_nil ?_
              refine ne_wt ?_
              refine wt_stepF rfl rfl (by kernel_rfl) ?_
              refine RS.cons ?_ (RS.nil)
              refine wl_storeTo 1 _ Tryz.hT rfl rfl rfl rfl rfl rfl rfl rfl rfl rfl (by show 0 + m * 1 + 1 ≤ (nS (s.take m) ++ ([str (numS y), str (numS y)] ++ C)).length; rw [List.length_append, hA]; simp <;> omega) h2 ?_
              refine wl_nil ?_
              refine ne_wt ?_
              refine wt_doneF rfl (by kernel_rfl) ?_
              exact ne_late () ⟨rfl, rfl, rfl, rfl, rfl, rfl, trivial⟩ [0, 1] (by decide) rfl
            · refine wl_storeTo 1 _ Tryz.hT rfl rfl rfl rfl rfl rfl rfl rfl rfl rfl (by show 0 + (m + 1) * 1 + 1 ≤ (nS (s.take m) ++ ([str (numS y), str (numS x)] ++ C)).length; rw [List.length_append, hA]; simp <;> omega) h1 ?_
              refine wl_nil ?_
              refine ne_wt ?_
              refine wt_stepF rfl rfl (by kernel_rfl) ?_
              refine RS.cons ?_ (RS.nil)
              refine wl_pure Tryz.hT rfl rfl rfl ?_
              refine wl_nil ?_
              refine ne_wt ?_
              refine wt_stepF rfl rfl (by kernel_rfl) ?_
              refine RS.cons ?_ (RS.nil)
              refine wl_upd 41 (.int .i64 (m : Nat)) rfl (congrArg (Value.int .i64) (show w64 (((m + 1 : Nat) : Int) - 1) = _ by rw [w64_id (by omega) (by omega)]; omega)) ?_; (first | refine wl_indexAddr Tryz.hT rfl rfl rfl rfl rfl rfl rfl (by omega) (by omega) ?_ | refine wq_indexAddr Tryz.hT rfl rfl rfl rfl rfl rfl rfl (by omega) (by omega) ?_)
              refine wl_nil ?_
              refine ne_wt ?_
              refine wt_stepF rfl rfl (by kernel_rfl) ?_
              refine RS.cons ?_ (RS.nil)
              refine wl_storeTo 1 _ Tryz.hT rfl rfl rfl rfl rfl rfl rfl rfl rfl rfl (by show 0 + m * 1 + 1 ≤ (nS (s.take m) ++ ([str (numS y), str (numS y)] ++ C)).length; rw [List.length_append, hA]; simp <;> omega) h2 ?_
              refine wl_nil ?_
              refine ne_wt ?_
              refine wt_doneF rfl (by kernel_rfl) ?_
              exact ne_late () ⟨rfl, rfl, rfl, rfl, rfl, rfl, trivial⟩ [0, 1] (by decide) rfl
          · refine wl_pure Tryz.hT rfl rfl rfl ?_
            refine wl_nil ?_
            refine ne_wt ?_
            refine wt_step rfl rfl (by ((repeat (first | refine Weak.same ?_ | refine Weak.off rfl ?_)); exact trivial)) ?_
            refine RS.cons ?_ (RS.cons ?_ (RS.nil))
            · refine wl_pure Tryz.hT rfl rfl rfl ?_
              refine wl_nil ?_
              refine ne_wt ?_
              refine wt_step rfl rfl (by ((repeat (first | refine Weak.same ?_ | refine Weak.off rfl ?_)); exact trivial)) ?_
              refine RS.cons ?_ (RS.nil)
              refine wl_storeTo 1 _ Tryz.hT rfl rfl rfl rfl rfl rfl rfl rfl rfl rfl (by show 0 + (m + 1) * 1 + 1 ≤ (nS (s.take m) ++ ([str (numS y), str (numS x)] ++ C)).length; rw [List.length_append, hA]; simp <;> omega) h1 ?_
              refine wl_nil ?_
              refine ne_wt ?_
              refine wt_stepF rfl rfl (by kernel_rfl) ?_
              refine RS.cons ?_ (RS.nil)
              refine wl_upd 41 (.int .i64 (m : Nat)) rfl (congrArg (Value.int .i64) (show w64 (((m + 1 : Nat) : Int) - 1) = _ by rw [w64_id (by omega) (by omega)]; omega)) ?_; (first | refine wl_indexAddr Tryz.hT rfl rfl rfl rfl rfl rfl rfl (by omega) (by omega) ?_ | refine wq_indexAddr Tryz.hT rfl rfl rfl rfl rfl rfl rfl (by omega) (by omega) ?_)
              refine wl_nil ?_
              refine ne_wt ?_
              refine wt_stepF rfl rfl (by kernel_rfl) ?_
              refine RS.cons ?_ (RS.nil)
              refine wl_storeTo 1 _ Tryz.hT rfl rfl rfl rfl rfl rfl rfl rfl rfl rfl (by show 0 + m * 1 + 1 ≤ (nS (s.take m) ++ ([str (numS y), str (numS y)] ++ C)).length; rw [List.length_append, hA]; simp <;> omega) h2 ?_
              refine wl_nil ?_
              refine ne_wt ?_
              refine wt_doneF rfl (by kernel_rfl) ?_
              exact ne_late () ⟨rfl, rfl, rfl, rfl, rfl, rfl, trivial⟩ [0, 1] (by decide) rfl
            · refine wl_storeTo 1 _ Tryz.hT rfl rfl rfl rfl rfl rfl rfl rfl rfl rfl (by show 0 + (m + 1) * 1 + 1 ≤ (nS (s.take m) ++ ([str (numS y), str (numS x)] ++ C)).length; rw [List.length_append, hA]; simp <;> omega) h1 ?_
              refine wl_nil ?_
              refine ne_wt ?_
              refine wt_stepF rfl rfl (by kernel_rfl) ?_
              refine RS.cons ?_ (RS.nil)
              refine wl_pure Tryz.hT rfl rfl rfl ?_
              refine wl_nil ?_
              refine ne_wt ?_
              refine wt_stepF rfl rfl (by kernel_rfl) ?_
              refine RS.cons ?_ (RS.nil)
              refine wl_upd 41 (.int .i64 (m : Nat)) rfl (congrArg (Value.int .i64) (show w64 (((m + 1 : Nat) : Int) - 1) = _ by rw [w64_id (by omega) (by omega)]; omega)) ?_; (first | refine wl_indexAddr Tryz.hT rfl rfl rfl rfl rfl rfl rfl (by omega) (by omega) ?_ | refine wq_indexAddr Tryz.hT rfl rfl rfl rfl rfl rfl rfl (by omega) (by omega) ?_)
              refine wl_nil ?_
              refine ne_wt ?_
              refine wt_stepF rfl rfl (by kernel_rfl) ?_
              refine RS.cons ?_ (RS.nil)
              refine wl_storeTo 1 _ Tryz.hT rfl rfl rfl rfl rfl rfl rfl rfl rfl rfl (by show 0 + m * 1 + 1 ≤ (nS (s.take m) ++ ([str (numS y), str (numS y)] ++ C)).length; rw [List.length_append, hA]; simp <;> omega) h2 ?_
              refine wl_nil ?_
              refine ne_wt ?_
              refine wt_doneF rfl (by kernel_rfl) ?_
              exact ne_late () ⟨rfl, rfl, rfl, rfl, rfl, rfl, trivial⟩ [0, 1] (by decide) rfl
          · refine wl_storeTo 1 _ Tryz.hT rfl rfl rfl rfl rfl rfl rfl rfl rfl rfl (by show 0 + (m + 1) * 1 + 1 ≤ (nS (s.take m) ++ ([str (numS y), str (numS x)] ++ C)).length; rw [List.length_append, hA]; simp <;> omega) h1 ?_
            refine wl_nil ?_
            refine ne_wt ?_
            refine wt_stepF rfl rfl (by kernel_rfl) ?_
            refine RS.cons ?_ (RS.cons ?_ (RS.nil))
            · refine wl_pure Tryz.hT rfl rfl rfl ?_
              refine wl_nil ?_
              refine ne_wt ?_
              refine wt_stepF rfl rfl (by kernel_rfl) ?_
              refine RS.cons ?_ (RS.nil)
              refine wl_pure Tryz.hT rfl rfl rfl ?_
              refine wl_nil ?_
              refine ne_wt ?_
              refine wt_stepF rfl rfl (by kernel_rfl) ?_
              refine RS.cons ?_ (RS.nil)
              refine wl_upd 41 (.int .i64 (m : Nat)) rfl (congrArg (Value.int .i64) (show w64 (((m + 1 : Nat) : Int) - 1) = _ by rw [w64_id (by omega) (by omega)]; omega)) ?_; (first | refine wl_indexAddr Tryz.hT rfl rfl rfl rfl rfl rfl rfl (by omega) (by omega) ?_ | refine wq_indexAddr Tryz.hT rfl rfl rfl rfl rfl rfl rfl (by omega) (by omega) ?_)
              refine wl_nil ?_
              refine ne_wt ?_
              refine wt_stepF rfl rfl (by kernel_rfl) ?_
              refine RS.cons ?_ (RS.nil)
              refine wl_storeTo 1 _ Tryz.hT rfl rfl rfl rfl rfl rfl rfl rfl rfl rfl (by show 0 + m * 1 + 1 ≤ (nS (s.take m) ++ ([str (numS y), str (numS y)] ++ C)).length; rw [List.length_append, hA]; simp <;> omega) h2 ?_
              refine wl_nil ?_
              refine ne_wt ?_
              refine wt_doneF rfl (by kernel_rfl) ?_
              exact ne_late () ⟨rfl, rfl, rfl, rfl, rfl, rfl, trivial⟩ [0, 1] (by decide) rfl
            · refine wl_pure Tryz.hT rfl rfl rfl ?_
              refine wl_nil ?_
              refine ne_wt ?_
              refine wt_stepF rfl rfl (by kernel_rfl) ?_
              refine RS.cons ?_ (RS.nil)
              refine wl_pure Tryz.hT rfl rfl rfl ?_
              refine wl_nil ?_
              refine ne_wt ?_
              refine wt_stepF rfl rfl (by kernel_rfl) ?_
              refine RS.cons ?_ (RS.nil)
              refine wl_upd 41 (.int .i64 (m : Nat)) rfl (congrArg (Value.int .i64) (show w64 (((m + 1 : Nat) : Int) - 1) = _ by rw [w64_id (by omega) (by omega)]; omega)) ?_; (first | refine wl_indexAddr Tryz.hT rfl rfl rfl rfl rfl rfl rfl (by omega) (by omega) ?_ | refine wq_indexAddr Tryz.hT rfl rfl rfl rfl rfl rfl rfl (by omega) (by omega) ?_)
              refine wl_nil ?_
              refine ne_wt ?_
              refine wt_stepF rfl rfl (by kernel_rfl) ?_
              refine RS.cons ?_ (RS.nil)
              refine wl_storeTo 1 _ Tryz.hT rfl rfl rfl rfl rfl rfl rfl rfl rfl rfl (by show 0 + m * 1 + 1 ≤ (nS (s.take m) ++ ([str (numS y), str (numS y)] ++ C)).length; rw [List.length_append, hA]; simp <;> omega) h2 ?_
              refine wl_nil ?_
              refine ne_wt ?_
              refine wt_doneF rfl (by kernel_rfl) ?_
              exact ne_late () ⟨rfl, rfl, rfl, rfl, rfl, rfl, trivial⟩ [0, 1] (by decide) rfl
        · refine wl_storeTo 1 _ Tryz.hT rfl rfl rfl rfl rfl rfl rfl rfl rfl rfl (by show 0 + (m + 1) * 1 + 1 ≤ (nS (s.take m) ++ ([str (numS y), str (numS x)] ++ C)).length; rw [List.length_append, hA]; simp <;> omega) h1 ?_
          refine wl_nil ?_
          refine ne_wt ?_
          refine wt_stepF rfl rfl (by kernel_rfl) ?_
          refine RS.cons ?_ (RS.cons ?_ (RS.nil))
          · refine wl_pure Tryz.hT rfl rfl rfl ?_
            refine wl_nil ?_
            refine ne_wt ?_
            refine wt_stepF rfl rfl (by kernel_rfl) ?_
            refine RS.cons ?_ (RS.nil)
            refine wl_pure Tryz.hT rfl rfl rfl ?_
            refine wl_nil ?_
            refine ne_wt ?_
            refine wt_stepF rfl rfl (by kernel_rfl) ?_
            refine RS.cons ?_ (RS.nil)
            refine wl_pure Tryz.hT rfl rfl rfl ?_
            refine wl_nil ?_
            refine ne_wt ?_
            refine wt_stepF rfl rfl (by kernel_rfl) ?_
            refine RS.cons ?_ (RS.nil)
            refine wl_upd 41 (.int .i64 (m : Nat)) rfl (congrArg (Value.int .i64) (show w64 (((m + 1 : Nat) : Int) - 1) = _ by rw [w64_id (by omega) (by omega)]; omega)) ?_; (first | refine wl_indexAddr Tryz.hT rfl rfl rfl rfl rfl rfl rfl (by omega) (by omega) ?_ | refine wq_indexAddr Tryz.hT rfl rfl rfl rfl rfl rfl rfl (by omega) (by omega) ?_)
            refine wl_nil ?_
            refine ne_wt ?_
            refine wt_stepF rfl rfl (by kernel_rfl) ?_
            refine RS.cons ?_ (RS.nil)
            refine wl_storeTo 1 _ Tryz.hT rfl rfl rfl rfl rfl rfl rfl rfl rfl rfl (by show 0 + m * 1 + 1 ≤ (nS (s.take m) ++ ([str (numS y), str (numS y)] ++ C)).length; rw [List.length_append, hA]; simp <;> omega) h2 ?_
            refine wl_nil ?_
            refine ne_wt ?_
            refine wt_doneF rfl (by kernel_rfl) ?_
            exact ne_late () ⟨rfl, rfl, rfl, rfl, rfl, rfl, trivial⟩ [0, 1] (by decide) rfl
          · refine wl_pure Tryz.hT rfl rfl rfl ?_
            refine wl_nil ?_
            refine ne_wt ?_
            refine wt_stepF rfl rfl (by kernel_rfl) ?_
            refine RS.cons ?_ (RS.cons ?_ (RS.nil))
            · refine wl_pure Tryz.hT rfl rfl rfl ?_
              refine wl_nil ?_
              refine ne_wt ?_
              refine wt_stepF rfl rfl (by kernel_rfl) ?_
              refine RS.cons ?_ (RS.nil)
              refine wl_pure Tryz.hT rfl rfl rfl ?_
              refine wl_nil ?_
              refine ne_wt ?_
              refine wt_stepF rfl rfl (by kernel_rfl) ?_
              refine RS.cons ?_ (RS.nil)
              refine wl_upd 41 (.int .i64 (m : Nat)) rfl (congrArg (Value.int .i64) (show w64 (((m + 1 : Nat) : Int) - 1) = _ by rw [w64_id (by omega) (by omega)]; omega)) ?_; (first | refine wl_indexAddr Tryz.hT rfl rfl rfl rfl rfl rfl rfl (by omega) (by omega) ?_ | refine wq_indexAddr Tryz.hT rfl rfl rfl rfl rfl rfl rfl (by omega) (by omega) ?_)
              refine wl_nil ?_
              refine ne_wt ?_
              refine wt_stepF rfl rfl (by kernel_rfl) ?_
              refine RS.cons ?_ (RS.nil)
              refine wl_storeTo 1 _ Tryz.hT rfl rfl rfl rfl rfl rfl rfl rfl rfl rfl (by show 0 + m * 1 + 1 ≤ (nS (s.take m) ++ ([str (numS y), str (numS y)] ++ C)).length; rw [List.length_append, hA]; simp <;> omega) h2 ?_
              refine wl_nil ?_
              refine ne_wt ?_
              refine wt_doneF rfl (by kernel_rfl) ?_
              exact ne_late () ⟨rfl, rfl, rfl, rfl, rfl, rfl, trivial⟩ [0, 1] (by decide) rfl
            · refine wl_pure Tryz.hT rfl rfl rfl ?_
              refine wl_nil ?_
              refine ne_wt ?_
              refine wt_stepF rfl rfl (by kernel_rfl) ?_
              refine RS.cons ?_ (RS.nil)
              refine wl_pure Tryz.hT rfl rfl rfl ?_
              refine wl_nil ?_
              refine ne_wt ?_
              refine wt_stepF rfl rfl (by kernel_rfl) ?_
              refine RS.cons ?_ (RS.nil)
              refine wl_upd 41 (.int .i64 (m : Nat)) rfl (congrArg (Value.int .i64) (show w64 (((m + 1 : Nat) : Int) - 1) = _ by rw [w64_id (by omega) (by omega)]; omega)) ?_; (first | refine wl_indexAddr Tryz.hT rfl rfl rfl rfl rfl rfl rfl (by omega) (by omega) ?_ | refine wq_indexAddr Tryz.hT rfl rfl rfl rfl rfl rfl rfl (by omega) (by omega) ?_)
              refine wl_nil ?_
              refine ne_wt ?_
              refine wt_stepF rfl rfl (by kernel_rfl) ?_
              refine RS.cons ?_ (RS.nil)
              refine wl_storeTo 1 _ Tryz.hT rfl rfl rfl rfl rfl rfl rfl rfl rfl rfl (by show 0 + m * 1 + 1 ≤ (nS (s.take m) ++ ([str (numS y), str (numS y)] ++ C)).length; rw [List.length_append, hA]; simp <;> omega) h2 ?_
              refine wl_nil ?_
              refine ne_wt ?_
              refine wt_doneF rfl (by kernel_rfl) ?_
              exact ne_late () ⟨rfl, rfl, rfl, rfl, rfl, rfl, trivial⟩ [0, 1] (by decide) rfl
      intro _
      refine zN ?_
      refine zE ?_
      refine zB ?_
      iterate 2 refine wl_pure Tryz.hT rfl rfl rfl ?_
      refine wl_upd 36 (.int .i64 (m : Nat)) rfl (congrArg (Value.int .i64) (show w64 (((m + 1 : Nat) : Int) - 1) = _ by rw [w64_id (by omega) (by omega)]; omega)) ?_
      refine wl_pure Tryz.hT rfl rfl rfl ?_
      refine wl_nil ?_
      refine ne_loop m ⟨by show m ≤ s.length; omega, fun z hz => ?_⟩ (by show m < m + 1; omega) ⟨rfl, rfl, rfl, rfl, rfl, rfl, trivial⟩ [] (by rw [← row2]; rfl)
      rw [e2] at hz
      rcases List.mem_cons.1 hz with rfl | hz
      · exact hc
      · exact hgt z hz
  refine key.mono ?_
  rintro e W' ⟨x, he, _, hb, hn'⟩
  exact ⟨x, he, trivial, near_of hg rfl hb hn'⟩
set_option maxHeartbeats 4000000 in
theorem pdqN_gives (cf : Nat) (hcf : CmpOK cf) (W : World) (g cap : Nat) (l : List Rat) (junk : List Value) (z : Int) (hn : l.length ≤ 12) (hg : W.heap[g]? = some (.cells (nS l ++ junk).toArray 27 (0, 0)))
    (hf : ∀ W', Keep W W' g → MaxP W' ∧ TabP W') (hz : ∀ p ∈ l, ∀ q ∈ l, Sz2 p q) :
    Calls Tryz.prog 69 #[.slice (some ⟨g, 0, none⟩) l.length cap, .int .i64 0, .int .i64 (l.length : Nat), .int .i64 z, .func (.func cf) #[] #[]] W fun e W' => ∃ x : Unit, e = .returned ((fun _ => .tuple #[]) x) ∧ True ∧ Near W W' g ((fun _ => g) x) ((fun _ => .cells (nS (sortQ l) ++ junk).toArray 27 (0, 0)) x) := by
  have key : Calls Tryz.prog 69 [.slice (some ⟨g, 0, none⟩) l.length cap, .int .i64 0, .int .i64 (l.length : Nat), .int .i64 z, .func (.func cf) #[] #[]].toArray W fun e W' => ∃ x : Unit, e = .returned ((fun _ => .tuple #[]) x) ∧ (fun _ => True) x ∧ Below (noHeap W).heap.size (noHeap W) W' ∧ NewBx (noHeap W) W' ((fun _ => [grpB (othersL W g), rowQ g (sortQ l) junk]) x) := by
    refine calls_enterT (X := Unit) (val := fun _ => .tuple #[]) (Φ := fun _ => True) (nb := fun _ => [grpB (othersL W g), rowQ g (sortQ l) junk]) (Hp.enterT (B := rowQ g l junk) rfl hg) Tryz.func69 rfl rfl rfl ?_
    refine zA ?_
    refine zB ?_
    refine wl_pure Tryz.hT rfl rfl rfl ?_
    refine wl_nil ?_
    refine zE ?_
    refine zA ?_
    refine zB ?_
    refine wl_pure Tryz.hT rfl rfl rfl ?_
    refine wl_nil ?_
    refine zE ?_
    refine zH ?_
    refine wc_loop (X := Unit) (fun _ => [(0, .slice (some ⟨g, 0, none⟩) l.length cap), (1, .int .i64 0), (2, .int .i64 (l.length : Nat)), (3, .int .i64 z), (4, .func (.func cf) #[] #[])]) (fun _ => [grpB (othersL W g), rowQ g l junk]) (fun _ => True) (fun _ => 0) () trivial ⟨rfl, rfl, rfl, rfl, rfl, trivial⟩ [] rfl ?_
    intro _ _
    refine zH ?_
    refine zA ?_
    refine zB ?_
    iterate 3 refine wl_pure Tryz.hT rfl rfl rfl ?_
    refine wl_upd 23 (.int .i64 (l.length : Nat)) rfl (congrArg (Value.int .i64) (show w64 ((l.length : Nat) - 0) = _ by rw [w64_id (by omega) (by omega)]; omega)) ?_
    refine wl_pure Tryz.hT rfl rfl rfl ?_
    refine wl_nil ?_
    refine zE ?_
    iterate 2 refine zA ?_
    refine zB ?_
    iterate 2 refine wl_pure Tryz.hT rfl rfl rfl ?_
    refine wl_upd 25 (.bool true) rfl (congrArg Value.bool (decide_eq_true (by omega))) ?_
    refine wl_nil ?_
    refine zE ?_
    refine zR rfl ?_
    refine zA ?_
    refine zB ?_
    iterate 4 refine wl_pure Tryz.hT rfl rfl rfl ?_
    refine wl_callN (X := Unit) (val := fun _ => .tuple #[]) (Φ := fun _ => True) (capt := []) 1 (B := rowQ g l junk) (L1 := []) (L2 := []) (b := g) (ob := .cells (nS l ++ junk).toArray 27 (0, 0)) (fun _ => rowQ g (sortQ l) junk) (g' := fun _ => g) (o' := fun _ => .cells (nS (sortQ l) ++ junk).toArray 27 (0, 0))
      rfl rfl rfl rfl rfl rfl (by kernel_rfl) rfl rfl (fun _ _ => rfl) (fun W1 hp => insN_gives cf hcf W1 g cap l junk (by omega) (hp.own.cell 1 _ rfl (g, .cells (nS l ++ junk).toArray 27 (0, 0)) (List.mem_cons_self ..)).1 (fun W2 hk => hf W2 ((keep_of hg ⟨_, List.mem_cons_self ..⟩ hp).trans hk)) hz) (fun _ _ => ?_)
    refine wl_nil ?_
    refine zE ?_
    refine zO ?_
    refine zP ?_
    refine zQ ?_
    refine zP ?_
    refine zQ ?_
    refine ne_ret0 (X := Unit) (val := fun _ => .tuple #[]) (Φ := fun _ => True) (nb := fun _ => [grpB (othersL W g), rowQ g (sortQ l) junk]) (fn := Tryz.f69) Tryz.hT rfl () rfl trivial fun W1 hp => ?_
    exact (hp.pick (l := [grpB (othersL W g), rowQ g (sortQ l) junk]) [0, 1] (by decide) rfl).own
  refine key.mono ?_
  rintro e W' ⟨x, he, _, hb, hn'⟩
  exact ⟨x, he, trivial, near_of hg rfl hb hn'⟩
theorem ins0_gives (cf : Nat) (W : World) (p : Option Addr) (cap : Nat) : CallsR Tryz.prog 103 #[.slice p 0 cap, .int .i64 0, .int .i64 ((0 : Nat) : Int), .func (.func cf) #[] #[]] W (fun _ : Unit => .tuple #[]) (fun _ => True) (fun _ => []) := by
  refine calls_enter (args := [.slice p 0 cap, .int .i64 0, .int .i64 ((0 : Nat) : Int), .func (.func cf) #[] #[]]) Tryz.func103 rfl rfl rfl ?_
  refine zA ?_
  refine zB ?_
  iterate 3 refine wl_pure Tryz.hT rfl rfl rfl ?_
  refine wl_nil ?_
  refine zE ?_
  refine zH ?_
  refine wc_loop (X := Unit) (fun _ => [(0, .slice p 0 cap), (1, .int .i64 0), (2, .int .i64 ((0 : Nat) : Int)), (3, .func (.func cf) #[] #[]), (8, .int .i64 1)]) (fun _ => []) (fun _ => True) (fun _ => 0) () trivial ⟨rfl, rfl, rfl, rfl, rfl, trivial⟩ [] rfl ?_
  intro _ _
  iterate 2 refine zA ?_
  refine zB ?_
  iterate 3 refine wl_pure Tryz.hT rfl rfl rfl ?_
  refine wl_upd 14 (.bool false) rfl rfl ?_
  refine wl_nil ?_
  refine zE ?_
  refine zS rfl ?_
  refine zJ ?_
  iterate 2 refine zK ?_
  refine zL ?_
  exact ne_end0 (X := Unit) (val := fun _ => .tuple #[]) (Φ := fun _ => True) (nb := fun _ => []) (fn := Tryz.f103) Tryz.hT rfl () rfl trivial fun W _ => NewBx.nil _ _
theorem pdq0_gives (cf : Nat) (W : World) (p : Option Addr) (cap : Nat) (z : Int) : CallsR Tryz.prog 69 #[.slice p 0 cap, .int .i64 0, .int .i64 ((0 : Nat) : Int), .int .i64 z, .func (.func cf) #[] #[]] W (fun _ : Unit => .tuple #[]) (fun _ => True) (fun _ => []) := by
  refine calls_enter (args := [.slice p 0 cap, .int .i64 0, .int .i64 ((0 : Nat) : Int), .int .i64 z, .func (.func cf) #[] #[]]) Tryz.func69 rfl rfl rfl ?_
  refine zA ?_
  refine zB ?_
  refine wl_pure Tryz.hT rfl rfl rfl ?_
  refine wl_nil ?_
  refine zE ?_
  refine zA ?_
  refine zB ?_
  refine wl_pure Tryz.hT rfl rfl rfl ?_
  refine wl_nil ?_
  refine zE ?_
  refine zH ?_
  refine wc_loop (X := Unit) (fun _ => [(0, .slice p 0 cap), (1, .int .i64 0), (2, .int .i64 ((0 : Nat) : Int)), (3, .int .i64 z), (4, .func (.func cf) #[] #[])]) (fun _ => []) (fun _ => True) (fun _ => 0) () trivial ⟨rfl, rfl, rfl, rfl, rfl, trivial⟩ [] rfl ?_
  intro _ _
  refine zH ?_
  refine zA ?_
  refine zB ?_
  iterate 3 refine wl_pure Tryz.hT rfl rfl rfl ?_
  refine wl_upd 23 (.int .i64 ((0 : Nat) : Int)) rfl rfl ?_
  refine wl_pure Tryz.hT rfl rfl rfl ?_
  refine wl_nil ?_
  refine zE ?_
  iterate 2 refine zA ?_
  refine zB ?_
  iterate 2 refine wl_pure Tryz.hT rfl rfl rfl ?_
  refine wl_upd 25 (.bool true) rfl rfl ?_
  refine wl_nil ?_
  refine zE ?_
  refine zR rfl ?_
  refine zA ?_
  refine zB ?_
  iterate 4 refine wl_pure Tryz.hT rfl rfl rfl ?_
  refine wl_call1 (capt := []) rfl rfl rfl rfl rfl rfl (by kernel_rfl) (fun W _ => ins0_gives cf W p cap) ?_
  refine wl_nil ?_
  refine zE ?_
  refine zO ?_
  refine zP ?_
  refine zQ ?_
  refine zP ?_
  refine zQ ?_
  exact ne_ret0 (X := Unit) (val := fun _ => .tuple #[]) (Φ := fun _ => True) (nb := fun _ => []) (fn := Tryz.f69) Tryz.hT rfl () rfl trivial fun W _ => NewBx.nil _ _
theorem bitLen_gives (x : Nat) (h : x ≤ 18446744073709551615) (W : World) : CallsR Tryz.prog 70 #[.int .u64 (x : Nat)] W (fun _ : Unit => .int .i64 (Lib.bitLen x)) (fun _ => True) (fun _ => []) := by
  refine CallsR.of1 ((Go.Proofs.Any.bits_Len (P := Tryz.prog) (ρ := Tryz.lays125_ren) Tryz.lays125 (x : Int) W (by omega) (by omega)).mono ?_)
  rintro e w' ⟨rfl, rfl⟩
  exact ⟨rfl, Below.refl _ _⟩
theorem u64_nat {n : Nat} (h : n ≤ 12) : IntKind.u64.wrap (n : Nat) = (n : Int) := by
  simp only [IntKind.wrap, IntKind.signed, IntKind.bits]
  simp
  omega
set_option maxHeartbeats 4000000 in
theorem sortFn_gives (cf : Nat) (hcf : CmpOK cf) (W : World) (g cap : Nat) (l : List Rat) (junk : List Value) (hn : l.length ≤ 12) (hg : W.heap[g]? = some (.cells (nS l ++ junk).toArray 27 (0, 0)))
    (hf : ∀ W', Keep W W' g → MaxP W' ∧ TabP W') (hz : ∀ p ∈ l, ∀ q ∈ l, Sz2 p q) :
    Calls Tryz.prog 34 #[.slice (some ⟨g, 0, none⟩) l.length cap, .func (.func cf) #[] #[]] W fun e W' => ∃ x : Unit, e = .returned ((fun _ => .tuple #[]) x) ∧ True ∧ Near W W' g ((fun _ => g) x) ((fun _ => .cells (nS (sortQ l) ++ junk).toArray 27 (0, 0)) x) := by
  have key : Calls Tryz.prog 34 [.slice (some ⟨g, 0, none⟩) l.length cap, .func (.func cf) #[] #[]].toArray W fun e W' => ∃ x : Unit, e = .returned ((fun _ => .tuple #[]) x) ∧ (fun _ => True) x ∧ Below (noHeap W).heap.size (noHeap W) W' ∧ NewBx (noHeap W) W' ((fun _ => [grpB (othersL W g), rowQ g (sortQ l) junk]) x) := by
    refine calls_enterT (X := Unit) (val := fun _ => .tuple #[]) (Φ := fun _ => True) (nb := fun _ => [grpB (othersL W g), rowQ g (sortQ l) junk]) (Hp.enterT (B := rowQ g l junk) rfl hg) Tryz.func34 rfl rfl rfl ?_
    refine zA ?_
    refine zB ?_
    iterate 3 refine wl_pure Tryz.hT rfl rfl rfl ?_
    refine wl_nil ?_
    refine zE ?_
    refine zB ?_
    iterate 3 refine wl_pure Tryz.hT rfl rfl rfl ?_
    refine wl_cvA (k := .u64) (kt := .i64) (by kernel_rfl) (by kernel_rfl) rfl rfl rfl rfl ?_
    refine wl_upd 10 (.int .u64 (l.length : Nat)) rfl (congrArg (Value.int .u64) (u64_nat hn)) ?_
    refine wl_call1 (capt := []) rfl rfl rfl rfl rfl rfl (by kernel_rfl) (fun W _ => bitLen_gives l.length (by omega) W) ?_
    refine wl_pure Tryz.hT rfl rfl rfl ?_
    refine wl_callN (X := Unit) (val := fun _ => .tuple #[]) (Φ := fun _ => True) (capt := []) 1 (B := rowQ g l junk) (L1 := []) (L2 := []) (b := g) (ob := .cells (nS l ++ junk).toArray 27 (0, 0)) (fun _ => rowQ g (sortQ l) junk) (g' := fun _ => g) (o' := fun _ => .cells (nS (sortQ l) ++ junk).toArray 27 (0, 0))
      rfl rfl rfl rfl rfl rfl (by kernel_rfl) rfl rfl (fun _ _ => rfl) (fun W1 hp => pdqN_gives cf hcf W1 g cap l junk _ hn (hp.own.cell 1 _ rfl (g, .cells (nS l ++ junk).toArray 27 (0, 0)) (List.mem_cons_self ..)).1 (fun W2 hk => hf W2 ((keep_of hg ⟨_, List.mem_cons_self ..⟩ hp).trans hk)) hz) (fun _ _ => ?_)
    refine wl_nil ?_
    refine ne_end0 (X := Unit) (val := fun _ => .tuple #[]) (Φ := fun _ => True) (nb := fun _ => [grpB (othersL W g), rowQ g (sortQ l) junk]) (fn := Tryz.f34) Tryz.hT rfl () rfl trivial fun W1 hp => ?_
    exact (hp.pick (l := [grpB (othersL W g), rowQ g (sortQ l) junk]) [0, 1] (by decide) rfl).own
  refine key.mono ?_
  rintro e W' ⟨x, he, _, hb, hn'⟩
  exact ⟨x, he, trivial, near_of hg rfl hb hn'⟩
end Go.Proofs.YtddadjbflgdomaaGreatDoor
namespace Go.Proofs.YtddadjbflgdomaaGreatDoor
/-- A beam: its length, its supports, forces (place, size), spreads (from, to, size). -/
structure BmP where
  len : Rat
  l : Rat
  r : Rat
  fs : List (Rat × Rat)
  ss : List (Rat × Rat × Rat)
/-- A spread's weight at its middle, cut off at a place. -/
def sprd (x : Rat) (s : Rat × Rat × Rat) : Option (Rat × Rat) := if s.1 < (if x < s.2.1 then x else s.2.1) then some ((s.1 + (if x < s.2.1 then x else s.2.1)) / 2, s.2.2 * ((if x < s.2.1 then x else s.2.1) - s.1)) else none
/-- The weights up to a place, with their places. -/
def BmP.pts (b : BmP) (x : Rat) : List (Rat × Rat) := b.fs.filter (fun f => decide (f.1 ≤ x)) ++ b.ss.filterMap (sprd x)
def sumW : List (Rat × Rat) → Rat
  | [] => 0
  | p :: l => p.2 + sumW l
def sumM : List (Rat × Rat) → Rat
  | [] => 0
  | p :: l => p.2 * p.1 + sumM l
theorem sumM_app (a b : List (Rat × Rat)) : sumM (a ++ b) = sumM a + sumM b := by
  induction a with
  | nil => show sumM b = 0 + sumM b; grind
  | cons p a ih => show p.2 * p.1 + sumM (a ++ b) = p.2 * p.1 + sumM a + sumM b; rw [ih]; grind
def BmP.total (b : BmP) : Rat := sumW (b.pts b.len)
def BmP.turn (b : BmP) : Rat := sumM (b.pts b.len) - b.l * sumW (b.pts b.len)
def BmP.right (b : BmP) : Rat := b.turn / (b.r - b.l)
def BmP.left (b : BmP) : Rat := b.total - b.right
def BmP.shear (b : BmP) (x : Rat) : Rat := (if b.l ≤ x then b.left else 0) + (if b.r ≤ x then b.right else 0) - sumW (b.pts x)
def BmP.moment (b : BmP) (x : Rat) : Rat := (if b.l < x then b.left * (x - b.l) else 0) + (if b.r < x then b.right * (x - b.r) else 0) - (x * sumW (b.pts x) - sumM (b.pts x))
/-- What Check asks. -/
structure BmP.Lies (b : BmP) : Prop where
  len : 0 < b.len
  l0 : 0 ≤ b.l
  lr : b.l < b.r
  r1 : b.r ≤ b.len
  f0 : ∀ f ∈ b.fs, 0 ≤ f.1
  f1 : ∀ f ∈ b.fs, f.1 ≤ b.len
  s0 : ∀ s ∈ b.ss, 0 ≤ s.1
  s1 : ∀ s ∈ b.ss, s.1 < s.2.1
  s2 : ∀ s ∈ b.ss, s.2.1 ≤ b.len
theorem bal_sum (b : BmP) : b.left + b.right = b.total := by unfold BmP.left; grind
theorem bal_turn {b : BmP} (h : b.Lies) : b.left * b.l + b.right * b.r = sumM (b.pts b.len) := by
  have hne : b.r - b.l ≠ 0 := by have := h.lr; grind
  have e : b.right * (b.r - b.l) = b.turn := by unfold BmP.right; grind
  unfold BmP.left BmP.total
  unfold BmP.turn at e
  grind
theorem bal_end {b : BmP} (h : b.Lies) : b.moment b.len = 0 := by
  have e := bal_turn h
  have e2 := bal_sum b
  have h1 := h.lr
  have h2 := h.r1
  unfold BmP.moment
  rw [if_pos (show b.l < b.len by grind)]
  unfold BmP.total at e2
  by_cases c : b.r < b.len
  · rw [if_pos c]; grind
  · have c2 : b.r = b.len := Rat.le_antisymm h2 (Rat.not_lt.1 c)
    rw [if_neg c]; grind
theorem bal_shear {b : BmP} (h : b.Lies) : b.shear b.len = 0 := by
  have e2 := bal_sum b
  have h1 := h.lr
  have h2 := h.r1
  unfold BmP.shear
  rw [if_pos (show b.l ≤ b.len by grind), if_pos h2]
  unfold BmP.total at e2
  grind
theorem pts_zero {b : BmP} (h : b.Lies) : sumM (b.pts 0) = 0 := by
  unfold BmP.pts
  rw [sumM_app]
  have h1 : ∀ l : List (Rat × Rat), (∀ f ∈ l, 0 ≤ f.1) → sumM (l.filter (fun f => decide (f.1 ≤ 0))) = 0 := by
    intro l
    induction l with
    | nil => exact fun _ => rfl
    | cons p l ih =>
      intro hl
      rw [List.filter_cons]
      have i1 := ih fun f hf => hl f (List.mem_cons_of_mem _ hf)
      have h0 := hl p (List.mem_cons_self ..)
      split
      · rename_i c
        have c := of_decide_eq_true c
        have e : p.1 = 0 := Rat.le_antisymm c h0
        show p.2 * p.1 + sumM _ = 0
        rw [i1, e]; grind
      · exact i1
  have h2 : b.ss.filterMap (sprd 0) = [] := by
    rw [List.filterMap_eq_nil_iff]
    intro s hs
    have a := h.s0 s hs
    have c := h.s1 s hs
    unfold sprd
    rw [if_neg]
    split <;> grind
  rw [h1 b.fs h.f0, h2]
  show 0 + 0 = (0 : Rat)
  grind
theorem bal_zero {b : BmP} (h : b.Lies) : b.moment 0 = 0 := by
  have h0 := h.l0
  have h1 := h.lr
  unfold BmP.moment
  rw [if_neg (Rat.not_lt.2 h0), if_neg (show ¬ b.r < 0 by grind), pts_zero h]
  grind
end Go.Proofs.YtddadjbflgdomaaGreatDoor
namespace Go.Proofs.YtddadjbflgdomaaGreatDoor
/-- A number of D-ths, at most M of them. -/
def InD (D M : Nat) (q : Rat) : Prop := ∃ z : Int, q = (z : Rat) / (D : Rat) ∧ z.natAbs ≤ M
theorem natCast_ne {D : Nat} (h : 0 < D) : (D : Rat) ≠ 0 := by
  intro e
  have : ((D : Int) : Rat) = ((0 : Int) : Rat) := e
  have := Rat.intCast_inj.1 this
  omega
theorem InD.sz {D M k : Nat} {q : Rat} (h : InD D M q) (hD : 0 < D) (hM : M < 10 ^ k) (hk : D < 10 ^ k) : szQ q k := by
  obtain ⟨z, rfl, hz⟩ := h
  have e : nrm z (D : Int) = (z : Rat) / (D : Rat) := by
    rw [nrm_div z (by omega), Rat.divInt_eq_div]; rfl
  rw [← e]
  exact nrm_num z (by omega) (by omega) (by rw [Int.natAbs_natCast]; exact hk)
theorem InD.mono {D M M' : Nat} {q : Rat} (h : InD D M q) (hM : M ≤ M') : InD D M' q := by
  obtain ⟨z, e, hz⟩ := h
  exact ⟨z, e, Nat.le_trans hz hM⟩
theorem InD.up {D M : Nat} {q : Rat} (h : InD D M q) (hD : 0 < D) (c : Nat) (hc : 0 < c) : InD (D * c) (M * c) q := by
  obtain ⟨z, rfl, hz⟩ := h
  refine ⟨z * c, ?_, ?_⟩
  · have h1 := natCast_ne hD
    have h2 := natCast_ne hc
    have e1 : ((z * (c : Int) : Int) : Rat) = (z : Rat) * (c : Rat) := by rw [Rat.intCast_mul]; rfl
    have e2 : ((D * c : Nat) : Rat) = (D : Rat) * (c : Rat) := Rat.natCast_mul D c
    rw [e1, e2]
    grind
  · rw [Int.natAbs_mul, Int.natAbs_natCast]; exact Nat.mul_le_mul_right _ hz
theorem InD.add {D M M' : Nat} {p q : Rat} (h : InD D M p) (h' : InD D M' q) : InD D (M + M') (p + q) := by
  obtain ⟨z, rfl, hz⟩ := h
  obtain ⟨y, rfl, hy⟩ := h'
  refine ⟨z + y, ?_, by omega⟩
  rw [Rat.intCast_add]; grind
theorem InD.sub {D M M' : Nat} {p q : Rat} (h : InD D M p) (h' : InD D M' q) : InD D (M + M') (p - q) := by
  obtain ⟨z, rfl, hz⟩ := h
  obtain ⟨y, rfl, hy⟩ := h'
  refine ⟨z - y, ?_, by omega⟩
  rw [Rat.intCast_sub]; grind
theorem InD.mul {D D' M M' : Nat} {p q : Rat} (h : InD D M p) (h' : InD D' M' q) (hD : 0 < D) (hD' : 0 < D') : InD (D * D') (M * M') (p * q) := by
  obtain ⟨z, rfl, hz⟩ := h
  obtain ⟨y, rfl, hy⟩ := h'
  refine ⟨z * y, ?_, ?_⟩
  · have h1 := natCast_ne hD
    have h2 := natCast_ne hD'
    have e2 : ((D * D' : Nat) : Rat) = (D : Rat) * (D' : Rat) := Rat.natCast_mul D D'
    rw [Rat.intCast_mul, e2]
    grind
  · rw [Int.natAbs_mul]; exact Nat.mul_le_mul hz hy
/-- A quotient: the divisor's numerator goes below. -/
theorem InD.div {D D' M c : Nat} {p : Rat} {y : Int} (h : InD D M p) (hD : 0 < D) (hD' : 0 < D') (hy : y ≠ 0) (hc : y.natAbs = c) : InD (D * c) (M * D') (p / ((y : Rat) / (D' : Rat))) := by
  obtain ⟨z, rfl, hz⟩ := h
  have h1 := natCast_ne hD
  have h2 := natCast_ne hD'
  have hc0 : 0 < c := by omega
  have h3 := natCast_ne hc0
  have h4 : (y : Rat) ≠ 0 := fun e => hy (Rat.intCast_inj.1 (show (y : Rat) = ((0 : Int) : Rat) from e))
  have e2 : ((D * c : Nat) : Rat) = (D : Rat) * (c : Rat) := Rat.natCast_mul D c
  rcases (show y = (c : Int) ∨ y = -(c : Int) by omega) with e | e
  · refine ⟨z * (D' : Int), ?_, ?_⟩
    · have e3 : (y : Rat) = (c : Rat) := by rw [e]; rfl
      have e4 : ((z * (D' : Int) : Int) : Rat) = (z : Rat) * (D' : Rat) := by rw [Rat.intCast_mul]; rfl
      rw [e2, e3, e4]; grind
    · rw [Int.natAbs_mul, Int.natAbs_natCast]; exact Nat.mul_le_mul_right _ hz
  · refine ⟨-(z * (D' : Int)), ?_, ?_⟩
    · have e3 : (y : Rat) = -(c : Rat) := by rw [e, Rat.intCast_neg]; rfl
      have e4 : ((-(z * (D' : Int)) : Int) : Rat) = -((z : Rat) * (D' : Rat)) := by rw [Rat.intCast_neg, Rat.intCast_mul]; rfl
      rw [e2, e3, e4]; grind
    · rw [Int.natAbs_neg, Int.natAbs_mul, Int.natAbs_natCast]; exact Nat.mul_le_mul_right _ hz
theorem InD.zero (D : Nat) : InD D 0 0 := ⟨0, by show (0 : Rat) = (0 : Rat) / (D : Rat); rw [Rat.div_def, Rat.zero_mul], by decide⟩
theorem InD.half (z : Int) {M : Nat} (h : z.natAbs ≤ M) : InD 2 M (nrm z 2) := ⟨z, by rw [nrm_div z (by decide), Rat.divInt_eq_div]; rfl, h⟩
end Go.Proofs.YtddadjbflgdomaaGreatDoor
namespace Go.Proofs.YtddadjbflgdomaaGreatDoor
theorem half_eq (z : Int) : nrm z 2 = (z : Rat) / 2 := by rw [nrm_div z (by decide), Rat.divInt_eq_div]; rfl
theorem half_lt {a b : Int} : nrm a 2 < nrm b 2 ↔ a < b := by
  rw [half_eq, half_eq]
  have h : ((a : Int) : Rat) < ((b : Int) : Rat) ↔ a < b := Rat.intCast_lt_intCast
  rw [← h]
  constructor <;> intro h <;> grind
theorem half_le {a b : Int} : nrm a 2 ≤ nrm b 2 ↔ a ≤ b := by
  rw [half_eq, half_eq]
  have h : ((a : Int) : Rat) ≤ ((b : Int) : Rat) ↔ a ≤ b := Rat.intCast_le_intCast
  rw [← h]
  constructor <;> intro h <;> grind
theorem half_zero : nrm 0 2 = 0 := by rw [half_eq]; show (0 : Rat) / 2 = 0; grind
/-- The parts of a small beam. -/
structure SmB where
  a : Nat
  b : Nat
  c : Nat
  fs : List (Int × Int)
  ss : List (Int × Int × Int)
structure SmB.OK (x : SmB) : Prop where
  f : ∀ f ∈ x.fs, (-128 ≤ f.1 ∧ f.1 ≤ 127) ∧ (-128 ≤ f.2 ∧ f.2 ≤ 127)
  s : ∀ s ∈ x.ss, (-128 ≤ s.1 ∧ s.1 ≤ 127) ∧ (-128 ≤ s.2.1 ∧ s.2.1 ≤ 127) ∧ (-128 ≤ s.2.2 ∧ s.2.2 ≤ 127)
def SmB.n (x : SmB) : Nat := x.a % 24 + 2
def SmB.l (x : SmB) : Nat := x.b % (x.n - 1)
def SmB.r (x : SmB) : Nat := min (x.l + 1 + x.c % (x.n - x.l)) x.n
def SmB.fo (x : SmB) (f : Int × Int) : Rat × Rat := (nrm ((f.1 + 128) % ((x.n : Int) + 1)) 2, nrm f.2 2)
def SmB.fr (x : SmB) (s : Int × Int × Int) : Int := (s.1 + 128) % (x.n : Int)
def SmB.to (x : SmB) (s : Int × Int × Int) : Int := x.fr s + 1 + (s.2.1 + 128) % ((x.n : Int) - x.fr s)
def SmB.sp (x : SmB) (s : Int × Int × Int) : Rat × Rat × Rat := (nrm (x.fr s) 2, nrm (x.to s) 2, nrm s.2.2 2)
def SmB.of (x : SmB) : BmP := ⟨nrm (x.n : Int) 2, nrm (x.l : Int) 2, nrm (x.r : Int) 2, (x.fs.take 5).map x.fo, (x.ss.take 4).map x.sp⟩
theorem SmB.n_rng (x : SmB) : 2 ≤ x.n ∧ x.n ≤ 25 := by unfold SmB.n; omega
theorem SmB.l_rng (x : SmB) : x.l + 1 < x.n ∨ x.l + 1 = x.n ∨ x.l + 1 ≤ x.n := by
  have := x.n_rng
  have h : x.l < x.n - 1 := Nat.mod_lt _ (by omega)
  omega
theorem SmB.r_rng (x : SmB) : x.l < x.r ∧ x.r ≤ x.n := by
  have h1 := x.n_rng
  have h2 := x.l_rng
  unfold SmB.r
  omega
theorem SmB.fr_rng (x : SmB) (s : Int × Int × Int) : 0 ≤ x.fr s ∧ x.fr s < (x.n : Int) := by
  have h1 := x.n_rng
  unfold SmB.fr
  exact ⟨Int.emod_nonneg _ (by omega), Int.emod_lt_of_pos _ (by omega)⟩
theorem SmB.to_rng (x : SmB) (s : Int × Int × Int) : x.fr s < x.to s ∧ x.to s ≤ (x.n : Int) := by
  have h1 := x.n_rng
  have h2 := x.fr_rng s
  have h3 := Int.emod_nonneg (s.2.1 + 128) (show (x.n : Int) - x.fr s ≠ 0 by omega)
  have h4 := Int.emod_lt_of_pos (s.2.1 + 128) (show 0 < (x.n : Int) - x.fr s by omega)
  unfold SmB.to
  omega
theorem SmB.fo_rng (x : SmB) (f : Int × Int) : 0 ≤ (f.1 + 128) % ((x.n : Int) + 1) ∧ (f.1 + 128) % ((x.n : Int) + 1) ≤ (x.n : Int) := by
  have h1 := x.n_rng
  have h3 := Int.emod_nonneg (f.1 + 128) (show (x.n : Int) + 1 ≠ 0 by omega)
  have h4 := Int.emod_lt_of_pos (f.1 + 128) (show 0 < (x.n : Int) + 1 by omega)
  omega
theorem SmB.lies (x : SmB) : x.of.Lies := by
  have h1 := x.n_rng
  have h2 := x.r_rng
  refine ⟨?_, ?_, ?_, ?_, fun f hf => ?_, fun f hf => ?_, fun s hs => ?_, fun s hs => ?_, fun s hs => ?_⟩
  · show 0 < nrm (x.n : Int) 2; rw [← half_zero, half_lt]; omega
  · show 0 ≤ nrm (x.l : Int) 2; rw [← half_zero, half_le]; omega
  · show nrm (x.l : Int) 2 < nrm (x.r : Int) 2; rw [half_lt]; omega
  · show nrm (x.r : Int) 2 ≤ nrm (x.n : Int) 2; rw [half_le]; omega
  · obtain ⟨g, hg, rfl⟩ := List.mem_map.1 hf
    show 0 ≤ nrm _ 2; rw [← half_zero, half_le]; exact (x.fo_rng g).1
  · obtain ⟨g, hg, rfl⟩ := List.mem_map.1 hf
    show nrm _ 2 ≤ nrm (x.n : Int) 2; rw [half_le]; exact (x.fo_rng g).2
  · obtain ⟨g, hg, rfl⟩ := List.mem_map.1 hs
    show 0 ≤ nrm _ 2; rw [← half_zero, half_le]; exact (x.fr_rng g).1
  · obtain ⟨g, hg, rfl⟩ := List.mem_map.1 hs
    show nrm _ 2 < nrm _ 2; rw [half_lt]; exact (x.to_rng g).1
  · obtain ⟨g, hg, rfl⟩ := List.mem_map.1 hs
    show nrm _ 2 ≤ nrm (x.n : Int) 2; rw [half_le]; exact (x.to_rng g).2
structure BmP.Hf (b : BmP) : Prop where
  len : InD 2 50 b.len
  l : InD 2 50 b.l
  r : InD 2 50 b.r
  f1 : ∀ f ∈ b.fs, InD 2 50 f.1
  f2 : ∀ f ∈ b.fs, InD 2 128 f.2
  s1 : ∀ s ∈ b.ss, InD 2 50 s.1
  s2 : ∀ s ∈ b.ss, InD 2 50 s.2.1
  s3 : ∀ s ∈ b.ss, InD 2 128 s.2.2
  fn : b.fs.length ≤ 10
  sn : b.ss.length ≤ 8
theorem SmB.hf {x : SmB} (h : x.OK) : x.of.Hf := by
  have h1 := x.n_rng
  have h2 := x.r_rng
  refine ⟨InD.half _ (by omega), InD.half _ (by omega), InD.half _ (by omega), fun f hf => ?_, fun f hf => ?_, fun s hs => ?_, fun s hs => ?_, fun s hs => ?_, ?_, ?_⟩
  · obtain ⟨g, hg, rfl⟩ := List.mem_map.1 hf
    have := x.fo_rng g
    exact InD.half _ (by omega)
  · obtain ⟨g, hg, rfl⟩ := List.mem_map.1 hf
    have := h.f g (List.mem_of_mem_take hg)
    exact InD.half _ (by omega)
  · obtain ⟨g, hg, rfl⟩ := List.mem_map.1 hs
    have := x.fr_rng g
    exact InD.half _ (by omega)
  · obtain ⟨g, hg, rfl⟩ := List.mem_map.1 hs
    have h3 := x.fr_rng g
    have h4 := x.to_rng g
    exact InD.half _ (by omega)
  · obtain ⟨g, hg, rfl⟩ := List.mem_map.1 hs
    have := h.s g (List.mem_of_mem_take hg)
    exact InD.half _ (by omega)
  · show ((x.fs.take 5).map x.fo).length ≤ 10
    rw [List.length_map, List.length_take]; omega
  · show ((x.ss.take 4).map x.sp).length ≤ 8
    rw [List.length_map, List.length_take]; omega
/-- The weights up to a place of 2 D-ths, D even: of 4 D-ths. -/
theorem Hf_pts {b : BmP} (h : b.Hf) {x : Rat} {D : Nat} (hD : 0 < D) (hx : InD (2 * D) (100 * D) x) : (∀ p ∈ b.pts x, InD (4 * D) (400 * D) p.1 ∧ InD (4 * D) (100000 * D) p.2) ∧ (b.pts x).length ≤ 18 := by
  constructor
  · intro p hp
    unfold BmP.pts at hp
    rcases List.mem_append.1 hp with hp | hp
    · have hp := (List.mem_filter.1 hp).1
      have a := (h.f1 p hp).up (by decide) (2 * D) (by omega)
      have c := (h.f2 p hp).up (by decide) (2 * D) (by omega)
      rw [show 2 * (2 * D) = 4 * D by omega] at a c
      exact ⟨a.mono (by omega), c.mono (by omega)⟩
    · obtain ⟨s, hs, e⟩ := List.mem_filterMap.1 hp
      have a1 := (h.s1 s hs).up (by decide) D hD
      have a2 := (h.s2 s hs).up (by decide) D hD
      have a3 := h.s3 s hs
      unfold sprd at e
      obtain ⟨t, ht⟩ : ∃ t, t = (if x < s.2.1 then x else s.2.1) := ⟨_, rfl⟩
      have tz : InD (2 * D) (100 * D) t := by
        rw [ht]; split
        · exact hx
        · exact a2.mono (by omega)
      rw [← ht] at e
      split at e
      · cases e
        have m := (a1.add tz).mul (InD.half 1 (show (1 : Int).natAbs ≤ 1 by decide)) (by omega) (by decide)
        have w := a3.mul (tz.sub a1) (by decide) (by omega)
        have e1 : (s.1 + t) * nrm 1 2 = (s.1 + t) / 2 := by
          rw [half_eq, show ((1 : Int) : Rat) = 1 from rfl]; grind
        rw [e1, show 2 * D * 2 = 4 * D by omega] at m
        rw [show 2 * (2 * D) = 4 * D by omega] at w
        exact ⟨m.mono (by omega), w.mono (by omega)⟩
      · cases e
  · have h1 := List.length_filter_le (fun f : Rat × Rat => decide (f.1 ≤ x)) b.fs
    have h2 := List.length_filterMap_le (sprd x) b.ss
    have h3 := h.fn
    have h4 := h.sn
    unfold BmP.pts
    rw [List.length_append]; omega
end Go.Proofs.YtddadjbflgdomaaGreatDoor
namespace Go.Proofs.YtddadjbflgdomaaGreatDoor
/-- A sum of terms, from a beginning on. -/
def accQ (t : Rat × Rat → Rat) (s0 : Rat) (l : List (Rat × Rat)) : Rat := l.foldl (fun s p => s + t p) s0
theorem accQ_snoc (t : Rat × Rat → Rat) (s0 : Rat) (l : List (Rat × Rat)) (p : Rat × Rat) : accQ t s0 (l ++ [p]) = accQ t s0 l + t p := by
  unfold accQ; rw [List.foldl_append]; rfl
theorem accQ_cons (t : Rat × Rat → Rat) (s0 : Rat) (l : List (Rat × Rat)) (p : Rat × Rat) : accQ t s0 (p :: l) = accQ t (s0 + t p) l := rfl
theorem accQ_size {t : Rat × Rat → Rat} {D M M0 : Nat} : ∀ (l : List (Rat × Rat)) {s0 : Rat}, InD D M0 s0 → (∀ p ∈ l, InD D M (t p)) → InD D (M0 + l.length * M) (accQ t s0 l)
  | [], s0, h0, _ => by
    show InD D (M0 + 0 * M) s0
    rw [Nat.zero_mul]; exact h0
  | p :: l, s0, h0, h => by
    rw [accQ_cons]
    have h1 := accQ_size l (h0.add (h p (List.mem_cons_self ..))) (fun q hq => h q (List.mem_cons_of_mem _ hq))
    have e : M0 + M + l.length * M = M0 + (p :: l).length * M := by rw [List.length_cons, Nat.succ_mul]; omega
    rwa [e] at h1
/-- .. and of each beginning of the list. -/
theorem accQ_pre {t : Rat × Rat → Rat} {D M M0 : Nat} {l l1 l2 : List (Rat × Rat)} {s0 : Rat} (e : l = l1 ++ l2) (h0 : InD D M0 s0) (h : ∀ p ∈ l, InD D M (t p)) : InD D (M0 + l.length * M) (accQ t s0 l1) := by
  subst e
  refine (accQ_size l1 h0 fun p hp => h p (List.mem_append_left _ hp)).mono ?_
  rw [List.length_append]
  exact Nat.add_le_add_left (Nat.mul_le_mul_right _ (by omega)) _
def tW (p : Rat × Rat) : Rat := p.2
def tT (l : Rat) (p : Rat × Rat) : Rat := p.2 * (p.1 - l)
def tS (p : Rat × Rat) : Rat := -p.2
def tM (x : Rat) (p : Rat × Rat) : Rat := -(p.2 * (x - p.1))
theorem acc_W (l : List (Rat × Rat)) (s : Rat) : accQ tW s l = s + sumW l := by
  induction l generalizing s with
  | nil => show s = s + 0; grind
  | cons p l ih => rw [accQ_cons, ih]; show s + p.2 + sumW l = s + (p.2 + sumW l); grind
theorem acc_T (c : Rat) (l : List (Rat × Rat)) (s : Rat) : accQ (tT c) s l = s + (sumM l - c * sumW l) := by
  induction l generalizing s with
  | nil => show s = s + (0 - c * 0); grind
  | cons p l ih => rw [accQ_cons, ih]; show s + p.2 * (p.1 - c) + (sumM l - c * sumW l) = s + ((p.2 * p.1 + sumM l) - c * (p.2 + sumW l)); grind
theorem acc_S (l : List (Rat × Rat)) (s : Rat) : accQ tS s l = s - sumW l := by
  induction l generalizing s with
  | nil => show s = s - 0; grind
  | cons p l ih => rw [accQ_cons, ih]; show s + -p.2 - sumW l = s - (p.2 + sumW l); grind
theorem acc_M (x : Rat) (l : List (Rat × Rat)) (s : Rat) : accQ (tM x) s l = s - (x * sumW l - sumM l) := by
  induction l generalizing s with
  | nil => show s = s - (x * 0 - 0); grind
  | cons p l ih => rw [accQ_cons, ih]; show s + -(p.2 * (x - p.1)) - (x * sumW l - sumM l) = s - (x * (p.2 + sumW l) - (p.2 * p.1 + sumM l)); grind
theorem total_acc (b : BmP) : b.total = accQ tW 0 (b.pts b.len) := by rw [acc_W]; unfold BmP.total; grind
theorem turn_acc (b : BmP) : b.turn = accQ (tT b.l) 0 (b.pts b.len) := by rw [acc_T]; unfold BmP.turn; grind
theorem shear_acc (b : BmP) (x : Rat) : b.shear x = accQ tS ((if b.l ≤ x then b.left else 0) + (if b.r ≤ x then b.right else 0)) (b.pts x) := by rw [acc_S]; rfl
theorem moment_acc (b : BmP) (x : Rat) : b.moment x = accQ (tM x) ((if b.l < x then b.left * (x - b.l) else 0) + (if b.r < x then b.right * (x - b.r) else 0)) (b.pts x) := by rw [acc_M]; rfl
theorem len100 {q : Rat} (h : InD 2 50 q) : InD (2 * 1) (100 * 1) q := h.mono (by decide)
theorem Hf_total {b : BmP} (h : b.Hf) : InD 4 (18 * 100000) b.total := by
  obtain ⟨h1, h2⟩ := Hf_pts h (D := 1) (by decide) (len100 h.len)
  rw [total_acc]
  refine (accQ_size (M := 100000) (b.pts b.len) (InD.zero 4) fun p hp => (h1 p hp).2).mono ?_
  omega
theorem Hf_turn {b : BmP} (h : b.Hf) : InD 16 (18 * 100000000) b.turn ∧ ∀ l1 l2, b.pts b.len = l1 ++ l2 → InD 16 (18 * 100000000) (accQ (tT b.l) 0 l1) := by
  obtain ⟨h1, h2⟩ := Hf_pts h (D := 1) (by decide) (len100 h.len)
  have ht : ∀ p ∈ b.pts b.len, InD 16 100000000 (tT b.l p) := fun p hp => by
    have a := h1 p hp
    have c := h.l.up (by decide) 2 (by decide)
    exact (a.2.mul (a.1.sub c) (by decide) (by decide)).mono (by decide)
  constructor
  · rw [turn_acc]
    exact (accQ_size (M := 100000000) (b.pts b.len) (InD.zero 16) ht).mono (by omega)
  · intro l1 l2 e
    exact (accQ_pre e (InD.zero 16) ht).mono (by omega)
/-- The distance of the supports in halves. -/
structure BmP.Span (b : BmP) (c : Nat) : Prop where
  pos : 0 < c
  le : c ≤ 50
  eq : b.r - b.l = ((c : Int) : Rat) / ((2 : Nat) : Rat)
theorem Hf_right {b : BmP} (h : b.Hf) {c : Nat} (hc : b.Span c) : InD (16 * c) (36 * 100000000) b.right := by
  have := (Hf_turn h).1.div (D' := 2) (y := (c : Int)) (by decide) (by decide) (by have := hc.pos; omega) (Int.natAbs_natCast c)
  rw [← hc.eq] at this
  exact this.mono (by decide)
theorem Hf_left {b : BmP} (h : b.Hf) {c : Nat} (hc : b.Span c) : InD (16 * c) (100 * 100000000) b.left := by
  have h1 := (Hf_total h).up (by decide) (4 * c) (by have := hc.pos; omega)
  rw [show 4 * (4 * c) = 16 * c by omega] at h1
  have hle := hc.le
  exact (h1.sub (Hf_right h hc)).mono (by omega)
end Go.Proofs.YtddadjbflgdomaaGreatDoor
namespace Go.Proofs.YtddadjbflgdomaaGreatDoor
/-- The supports' part of a shear force, and of a moment. -/
def BmP.sup (b : BmP) (x : Rat) : Rat := (if b.l ≤ x then b.left else 0) + (if b.r ≤ x then b.right else 0)
def BmP.supM (b : BmP) (x : Rat) : Rat := (if b.l < x then b.left * (x - b.l) else 0) + (if b.r < x then b.right * (x - b.r) else 0)
theorem pos_mul {a b : Nat} (ha : 0 < a) (hb : 0 < b) : 0 < a * b := Nat.mul_pos ha hb
theorem Hf_sup {b : BmP} (h : b.Hf) {c : Nat} (hc : b.Span c) (x : Rat) : InD (16 * c) 10000000000 (if b.l ≤ x then b.left else 0) ∧ InD (16 * c) 13600000000 (b.sup x) := by
  have h1 := (Hf_left h hc).mono (M' := 10000000000) (by decide)
  have h2 := (Hf_right h hc).mono (M' := 3600000000) (by decide)
  have a : InD (16 * c) 10000000000 (if b.l ≤ x then b.left else 0) := by
    split
    · exact h1
    · exact (InD.zero _).mono (Nat.zero_le _)
  refine ⟨a, ?_⟩
  unfold BmP.sup
  refine a.add (M' := 3600000000) ?_
  split
  · exact h2
  · exact (InD.zero _).mono (Nat.zero_le _)
theorem Hf_shear {b : BmP} (h : b.Hf) {c : Nat} (hc : b.Span c) {x : Rat} {D : Nat} (hD : 0 < D) (hx : InD (2 * D) (100 * D) x) {l1 l2 : List (Rat × Rat)} (e : b.pts x = l1 ++ l2) :
    InD (16 * c * D) (20000000000 * D) (accQ tS (b.sup x) l1) := by
  obtain ⟨h1, h2⟩ := Hf_pts h hD hx
  have hp := hc.pos
  have hle := hc.le
  have hs := ((Hf_sup h hc x).2).up (by omega) D hD
  have ht : ∀ p ∈ b.pts x, InD (16 * c * D) (20000000 * D) (tS p) := fun p hp' => by
    have a := ((h1 p hp').2).up (by omega) (4 * c) (by omega)
    have a2 := (InD.zero (4 * D * (4 * c))).sub a
    have e1 : 4 * D * (4 * c) = 16 * c * D := by
      rw [Nat.mul_mul_mul_comm, Nat.mul_comm D c, ← Nat.mul_assoc]
    rw [e1] at a2
    have e2 : (0 : Rat) - p.2 = tS p := by unfold tS; grind
    rw [e2] at a2
    refine a2.mono ?_
    rw [Nat.zero_add, Nat.mul_right_comm]
    refine Nat.mul_le_mul_right _ ?_
    omega
  refine (accQ_pre e hs ht).mono ?_
  have : (b.pts x).length * (20000000 * D) ≤ 18 * (20000000 * D) := Nat.mul_le_mul_right _ h2
  omega
theorem Hf_supM {b : BmP} (h : b.Hf) {c : Nat} (hc : b.Span c) {x : Rat} {D : Nat} (hD : 0 < D) (hx : InD (2 * D) (100 * D) x) :
    InD (16 * c * (2 * D)) (1500000000000 * D) (b.left * (x - b.l)) ∧ InD (16 * c * (2 * D)) (1500000000000 * D) (b.right * (x - b.r)) ∧ InD (16 * c * (2 * D)) (3000000000000 * D) (b.supM x) ∧ InD (16 * c * (2 * D)) (3000000000000 * D) (if b.l < x then b.left * (x - b.l) else 0) := by
  have hp := hc.pos
  have h1 := (Hf_left h hc).mono (M' := 10000000000) (by decide)
  have h2 := (Hf_right h hc).mono (M' := 10000000000) (by decide)
  have xl := hx.sub (h.l.up (by decide) D hD)
  have xr := hx.sub (h.r.up (by decide) D hD)
  have a := (h1.mul xl (by omega) (by omega)).mono (M' := 1500000000000 * D) (by omega)
  have c2 := (h2.mul xr (by omega) (by omega)).mono (M' := 1500000000000 * D) (by omega)
  have a' : InD (16 * c * (2 * D)) (1500000000000 * D) (if b.l < x then b.left * (x - b.l) else 0) := by
    split
    · exact a
    · exact (InD.zero _).mono (Nat.zero_le _)
  have c' : InD (16 * c * (2 * D)) (1500000000000 * D) (if b.r < x then b.right * (x - b.r) else 0) := by
    split
    · exact c2
    · exact (InD.zero _).mono (Nat.zero_le _)
  refine ⟨a, c2, ?_, a'.mono (by omega)⟩
  unfold BmP.supM
  exact (a'.add c').mono (by omega)
theorem Hf_moment {b : BmP} (h : b.Hf) {c : Nat} (hc : b.Span c) {x : Rat} {D : Nat} (hD : 0 < D) (hx : InD (2 * D) (100 * D) x) {l1 l2 : List (Rat × Rat)} (e : b.pts x = l1 ++ l2) :
    InD (16 * c * (2 * D) * D) (5000000000000 * (D * D)) (accQ (tM x) (b.supM x) l1) := by
  obtain ⟨h1, h2⟩ := Hf_pts h hD hx
  have hp := hc.pos
  have hle := hc.le
  have hs := ((Hf_supM h hc hD hx).2.2.1).up (pos_mul (by omega) (by omega)) D hD
  have ht : ∀ p ∈ b.pts x, InD (16 * c * (2 * D) * D) (6000000000 * (D * D)) (tM x p) := fun p hp' => by
    obtain ⟨p1, p2⟩ := h1 p hp'
    have x4 := hx.up (by omega) 2 (by decide)
    rw [show 2 * D * 2 = 4 * D by omega] at x4
    have m := p2.mul (x4.sub p1) (by omega) (by omega)
    have m2 := (InD.zero _).sub (m.up (pos_mul (by omega) (by omega)) (2 * c) (by omega))
    have e1 : 4 * D * (4 * D) * (2 * c) = 16 * c * (2 * D) * D := by
      rw [show 4 * D * (4 * D) * (2 * c) = 32 * (c * (D * D)) by
        rw [Nat.mul_mul_mul_comm 4 D 4 D, Nat.mul_mul_mul_comm (4 * 4) (D * D) 2 c, Nat.mul_comm (D * D) c]]
      rw [Nat.mul_mul_mul_comm 16 c 2 D, Nat.mul_assoc (16 * 2) (c * D) D, Nat.mul_assoc c D D]
    rw [e1] at m2
    have e2 : (0 : Rat) - p.2 * (x - p.1) = tM x p := by unfold tM; grind
    rw [e2] at m2
    refine m2.mono ?_
    rw [Nat.zero_add]
    have e3 : 100000 * D * (100 * D * 2 + 400 * D) = 60000000 * (D * D) := by
      rw [show 100 * D * 2 + 400 * D = 600 * D by omega, Nat.mul_mul_mul_comm]
    rw [e3]
    calc 60000000 * (D * D) * (2 * c) ≤ 60000000 * (D * D) * 100 := Nat.mul_le_mul_left _ (by omega)
      _ = 6000000000 * (D * D) := by omega
  refine (accQ_pre e hs ht).mono ?_
  have q : (b.pts x).length * (6000000000 * (D * D)) ≤ 18 * (6000000000 * (D * D)) := Nat.mul_le_mul_right _ h2
  rw [Nat.mul_assoc 3000000000000 D D]
  omega
end Go.Proofs.YtddadjbflgdomaaGreatDoor
namespace Go.Proofs.YtddadjbflgdomaaGreatDoor
set_option maxRecDepth 10000
/-- What `middle` reckons with. -/
structure MidZ (s : Rat × Rat × Rat) : Prop where
  a : Sz2 s.1 s.2.1
  b : Sz2 (s.1 + s.2.1) 2
  c : Sz2 s.2.1 s.1
  d : Sz2 s.2.2 (s.2.1 - s.1)
def cut (x : Rat) (s : Rat × Rat × Rat) : Rat := if x < s.2.1 then x else s.2.1
/-- What `fold` reckons with. -/
structure FoldZ (b : BmP) (x : Rat) : Prop where
  f : ∀ f ∈ b.fs, Sz2 f.1 x
  s : ∀ s ∈ b.ss, Sz2 s.2.1 x
  m : ∀ s ∈ b.ss, MidZ (s.1, cut x s, s.2.2)
  c : ∀ s ∈ b.ss, Sz2 s.1 (cut x s)
theorem sprd_cut (x : Rat) (s : Rat × Rat × Rat) : sprd x s = if s.1 < cut x s then some ((s.1 + cut x s) / 2, s.2.2 * (cut x s - s.1)) else none := rfl
/-- What a beam's sums reckon with. -/
structure RcZ (b : BmP) : Prop where
  z : FoldZ b b.len
  lf : b.fs.length ≤ 1000
  ls : b.ss.length ≤ 1000
  w : ∀ l1 pt l2, b.pts b.len = l1 ++ pt :: l2 → Sz2 (accQ tW 0 l1) pt.2
  t : ∀ l1 pt l2, b.pts b.len = l1 ++ pt :: l2 → Sz2 pt.1 b.l ∧ Sz2 pt.2 (pt.1 - b.l) ∧ Sz2 (accQ (tT b.l) 0 l1) (pt.2 * (pt.1 - b.l))
  d1 : Sz2 b.r b.l
  d2 : Sz2 b.turn (b.r - b.l)
  nz : (b.r - b.l).num ≠ 0
  s : Sz2 b.total b.right
/-- The supports' parts, one after the other. -/
def BmP.supS (b : BmP) (x : Rat) : Nat → Rat
  | 0 => 0
  | 1 => if b.l ≤ x then b.left else 0
  | _ => b.sup x
def BmP.supT (b : BmP) (x : Rat) : Nat → Rat
  | 0 => 0
  | 1 => if b.l < x then b.left * (x - b.l) else 0
  | _ => b.supM x
structure ShZ (b : BmP) (x : Rat) : Prop where
  rc : RcZ b
  z : FoldZ b x
  c1 : Sz2 b.l x
  c2 : Sz2 b.r x
  a1 : Sz2 0 b.left
  a2 : Sz2 (if b.l ≤ x then b.left else 0) b.right
  t : ∀ l1 pt l2, b.pts x = l1 ++ pt :: l2 → Sz2 (accQ tS (b.sup x) l1) pt.2
structure MoZ (b : BmP) (x : Rat) : Prop where
  rc : RcZ b
  z : FoldZ b x
  c1 : Sz2 b.l x
  c2 : Sz2 b.r x
  s1 : Sz2 x b.l
  s2 : Sz2 x b.r
  m1 : Sz2 b.left (x - b.l)
  m2 : Sz2 b.right (x - b.r)
  a1 : Sz2 0 (b.left * (x - b.l))
  a2 : Sz2 (if b.l < x then b.left * (x - b.l) else 0) (b.right * (x - b.r))
  t : ∀ l1 pt l2, b.pts x = l1 ++ pt :: l2 → Sz2 x pt.1 ∧ Sz2 pt.2 (x - pt.1) ∧ Sz2 (accQ (tM x) (b.supM x) l1) (pt.2 * (x - pt.1))
/-- A number of a beam. -/
structure BnQ (q : Rat) : Prop where
  n : q.num.natAbs < 10 ^ 12
  d : q.den ≤ 12
theorem BnQ.sz {q : Rat} (h : BnQ q) : szQ q 12 := ⟨h.n, Nat.lt_of_le_of_lt h.d (by decide)⟩
theorem BnQ.z2 {p q : Rat} (h : BnQ p) (h' : BnQ q) : Sz2 p q := sz2 h.sz h'.sz (by decide)
theorem bn0 : BnQ 0 := ⟨by decide, by decide⟩
/-- What Check asks, in full. -/
structure BmC (b : BmP) : Prop where
  lies : b.Lies
  len : BnQ b.len
  l : BnQ b.l
  r : BnQ b.r
  f : ∀ f ∈ b.fs, BnQ f.1 ∧ BnQ f.2
  s : ∀ s ∈ b.ss, BnQ s.1 ∧ BnQ s.2.1 ∧ BnQ s.2.2
  lf : b.fs.length ≤ 64
  ls : b.ss.length ≤ 64
/-- A place of a beam. -/
structure PlQ (b : BmP) (x : Rat) : Prop where
  z : szQ x 56
  h0 : 0 ≤ x
  h1 : x ≤ b.len
theorem InD.z40 {D M : Nat} {q : Rat} (h : InD D M q) (hD : 0 < D) (h1 : D < 10 ^ 40) (h2 : M < 10 ^ 40) : szQ q 40 := h.sz hD h2 h1
theorem InD.bn {D M : Nat} {q : Rat} (h : InD D M q) (hD : 0 < D) (h1 : D ≤ 12) (h2 : M < 10 ^ 12) : BnQ q := by
  obtain ⟨z, rfl, hz⟩ := h
  have e : nrm z (D : Int) = (z : Rat) / (D : Rat) := by
    rw [nrm_div z (by omega), Rat.divInt_eq_div]; rfl
  rw [← e]
  have h0 : ((D : Nat) : Int).natAbs ≠ 0 := by omega
  unfold nrm
  rw [if_neg (by omega), mkRat, dif_neg h0, Rat.normalize_eq]
  constructor
  · show (z / _).natAbs < _
    exact Nat.lt_of_le_of_lt (Nat.le_trans (Int.natAbs_ediv_le_natAbs ..) hz) h2
  · exact Nat.le_trans (Nat.div_le_self ..) (by omega)
theorem sz2_2 : szQ (2 : Rat) 1 := ⟨by decide, by decide⟩
theorem Hf_z {b : BmP} (h : b.Hf) : szQ b.len 40 ∧ szQ b.l 40 ∧ szQ b.r 40 ∧ (∀ f ∈ b.fs, szQ f.1 40 ∧ szQ f.2 40) ∧ (∀ s ∈ b.ss, szQ s.1 40 ∧ szQ s.2.1 40 ∧ szQ s.2.2 40) := by
  refine ⟨h.len.z40 (by decide) (by decide) (by decide), h.l.z40 (by decide) (by decide) (by decide), h.r.z40 (by decide) (by decide) (by decide), fun f hf => ⟨(h.f1 f hf).z40 (by decide) (by decide) (by decide), (h.f2 f hf).z40 (by decide) (by decide) (by decide)⟩, fun s hs => ⟨(h.s1 s hs).z40 (by decide) (by decide) (by decide), (h.s2 s hs).z40 (by decide) (by decide) (by decide), (h.s3 s hs).z40 (by decide) (by decide) (by decide)⟩⟩
theorem fit_fold {b : BmP} (h : b.Hf) {x : Rat} (hx : szQ x 40) : FoldZ b x := by
  obtain ⟨_, _, _, hf, hs⟩ := Hf_z h
  have hc : ∀ s ∈ b.ss, szQ (cut x s) 40 := fun s hm => by
    unfold cut; split
    · exact hx
    · exact (hs s hm).2.1
  refine ⟨fun f hm => sz2 (hf f hm).1 hx (by decide), fun s hm => sz2 (hs s hm).2.1 hx (by decide), fun s hm => ?_, fun s hm => sz2 (hs s hm).1 (hc s hm) (by decide)⟩
  have a := (hs s hm).1
  have c := hc s hm
  exact ⟨sz2 a c (by decide), sz2 (a.add c) sz2_2 (by decide), sz2 c a (by decide), sz2 (hs s hm).2.2 (c.sub a) (by decide)⟩
theorem fit_len {b : BmP} (h : b.Hf) : InD (2 * 1) (100 * 1) b.len := len100 h.len
theorem fit_rc {b : BmP} (h : b.Hf) (hL : b.Lies) {c : Nat} (hc : b.Span c) : RcZ b := by
  obtain ⟨zlen, zl, zr, hf, hs⟩ := Hf_z h
  obtain ⟨hp, hn⟩ := Hf_pts h (D := 1) (by decide) (fit_len h)
  have hc1 := hc.pos
  have hc2 := hc.le
  have hlf := h.fn
  have hls := h.sn
  have p1 : ∀ p ∈ b.pts b.len, szQ p.1 40 ∧ szQ p.2 40 := fun p hm => ⟨(hp p hm).1.z40 (by decide) (by decide) (by decide), (hp p hm).2.z40 (by decide) (by decide) (by decide)⟩
  have tu := Hf_turn h
  have zt : szQ b.total 40 := (Hf_total h).z40 (by decide) (by decide) (by decide)
  have zr2 : szQ b.right 40 := (Hf_right h hc).z40 (by omega) (Nat.lt_of_le_of_lt (show 16 * c ≤ 800 by omega) (by decide)) (by decide)
  have hmem : ∀ {l1 pt l2}, b.pts b.len = l1 ++ pt :: l2 → pt ∈ b.pts b.len := fun e => by rw [e]; exact List.mem_append_right _ (List.mem_cons_self ..)
  refine ⟨fit_fold h zlen, by omega, by omega, fun l1 pt l2 e => ?_, fun l1 pt l2 e => ?_, sz2 zr zl (by decide), sz2 (tu.1.z40 (by decide) (by decide) (by decide)) (zr.sub zl) (by decide), num_ne (by have := hL.lr; grind), sz2 zt zr2 (by decide)⟩
  · have ha : InD 4 (18 * 100000) (accQ tW 0 l1) := (accQ_pre (M := 100000) e (InD.zero 4) fun p hm => (hp p hm).2).mono (by omega)
    exact sz2 (ha.z40 (by decide) (by decide) (by decide)) (p1 pt (hmem e)).2 (by decide)
  · obtain ⟨z1, z2⟩ := p1 pt (hmem e)
    have zd := z1.sub zl
    exact ⟨sz2 z1 zl (by decide), sz2 z2 zd (by decide), sz2 ((tu.2 l1 _ e).z40 (by decide) (by decide) (by decide)) (z2.mul zd) (by decide)⟩
/-- Denominators of places. -/
abbrev dMax : Nat := 1000000
theorem le16 {c D : Nat} (hc : c ≤ 50) (hD : D ≤ dMax) : 16 * c * D ≤ 800 * dMax := Nat.mul_le_mul (by omega) hD
theorem le32 {c D : Nat} (hc : c ≤ 50) (hD : D ≤ dMax) : 16 * c * (2 * D) ≤ 800 * (2 * dMax) := Nat.mul_le_mul (by omega) (Nat.mul_le_mul_left _ hD)
theorem fit_x {x : Rat} {D : Nat} (h0 : 0 < D) (hD : D ≤ dMax) (hx : InD (2 * D) (100 * D) x) : szQ x 40 :=
  hx.z40 (by omega) (Nat.lt_of_le_of_lt (Nat.mul_le_mul_left 2 hD) (by decide)) (Nat.lt_of_le_of_lt (Nat.mul_le_mul_left 100 hD) (by decide))
theorem fit_pts {b : BmP} (h : b.Hf) {x : Rat} {D : Nat} (h0 : 0 < D) (hD : D ≤ dMax) (hx : InD (2 * D) (100 * D) x) : ∀ p ∈ b.pts x, szQ p.1 40 ∧ szQ p.2 40 := fun p hm => by
  obtain ⟨hp, _⟩ := Hf_pts h h0 hx
  have a : 4 * D < 10 ^ 40 := Nat.lt_of_le_of_lt (Nat.mul_le_mul_left 4 hD) (by decide)
  exact ⟨(hp p hm).1.z40 (by omega) a (Nat.lt_of_le_of_lt (Nat.mul_le_mul_left 400 hD) (by decide)), (hp p hm).2.z40 (by omega) a (Nat.lt_of_le_of_lt (Nat.mul_le_mul_left 100000 hD) (by decide))⟩
theorem fit_ends {b : BmP} (h : b.Hf) {c : Nat} (hc : b.Span c) : szQ b.left 40 ∧ szQ b.right 40 := by
  have hc1 := hc.pos
  have hc2 := hc.le
  have a : 16 * c < 10 ^ 40 := Nat.lt_of_le_of_lt (show 16 * c ≤ 800 by omega) (by decide)
  exact ⟨(Hf_left h hc).z40 (by omega) a (by decide), (Hf_right h hc).z40 (by omega) a (by decide)⟩
theorem sz00 : szQ (0 : Rat) 1 := ⟨by decide, by decide⟩
theorem fit_sh {b : BmP} (h : b.Hf) (hL : b.Lies) {c : Nat} (hc : b.Span c) {x : Rat} {D : Nat} (h0 : 0 < D) (hD : D ≤ dMax) (hx : InD (2 * D) (100 * D) x) : ShZ b x := by
  obtain ⟨zlen, zl, zr, _, _⟩ := Hf_z h
  obtain ⟨e1, e2⟩ := fit_ends h hc
  have zx := fit_x h0 hD hx
  have hc1 := hc.pos
  have hc2 := hc.le
  have a2 : szQ (if b.l ≤ x then b.left else 0) 40 := by
    split
    · exact e1
    · exact sz00.mono (by decide)
  refine ⟨fit_rc h hL hc, fit_fold h zx, sz2 zl zx (by decide), sz2 zr zx (by decide), sz2 sz00 e1 (by decide), sz2 a2 e2 (by decide), fun l1 pt l2 e => ?_⟩
  have zs : szQ (accQ tS (b.sup x) l1) 40 := (Hf_shear h hc h0 hx e).z40 (pos_mul (by omega) h0) (Nat.lt_of_le_of_lt (le16 hc2 hD) (by decide)) (Nat.lt_of_le_of_lt (Nat.mul_le_mul_left _ hD) (by decide))
  exact sz2 zs (fit_pts h h0 hD hx pt (by rw [e]; exact List.mem_append_right _ (List.mem_cons_self ..))).2 (by decide)
theorem fit_mo {b : BmP} (h : b.Hf) (hL : b.Lies) {c : Nat} (hc : b.Span c) {x : Rat} {D : Nat} (h0 : 0 < D) (hD : D ≤ dMax) (hx : InD (2 * D) (100 * D) x) : MoZ b x := by
  obtain ⟨zlen, zl, zr, _, _⟩ := Hf_z h
  obtain ⟨e1, e2⟩ := fit_ends h hc
  have zx := fit_x h0 hD hx
  have hc1 := hc.pos
  have hc2 := hc.le
  have m1 := e1.mul (zx.sub zl)
  have m2 := e2.mul (zx.sub zr)
  have a2 : szQ (if b.l < x then b.left * (x - b.l) else 0) (40 + (40 + 40 + 1)) := by
    split
    · exact m1
    · exact sz00.mono (by decide)
  refine ⟨fit_rc h hL hc, fit_fold h zx, sz2 zl zx (by decide), sz2 zr zx (by decide), sz2 zx zl (by decide), sz2 zx zr (by decide), sz2 e1 (zx.sub zl) (by decide), sz2 e2 (zx.sub zr) (by decide), sz2 sz00 m1 (by decide), sz2 a2 m2 (by decide), fun l1 pt l2 e => ?_⟩
  obtain ⟨z1, z2⟩ := fit_pts h h0 hD hx pt (by rw [e]; exact List.mem_append_right _ (List.mem_cons_self ..))
  have zs : szQ (accQ (tM x) (b.supM x) l1) 40 := (Hf_moment h hc h0 hx e).z40 (pos_mul (pos_mul (by omega) (by omega)) h0) (Nat.lt_of_le_of_lt (Nat.mul_le_mul (le32 hc2 hD) hD) (by decide)) (Nat.lt_of_le_of_lt (Nat.mul_le_mul_left _ (Nat.mul_le_mul hD hD)) (by decide))
  exact ⟨sz2 zx z1 (by decide), sz2 z2 (zx.sub z1) (by decide), sz2 zs (z2.mul (zx.sub z1)) (by decide)⟩
theorem fit_check {b : BmP} (h : b.Hf) (hL : b.Lies) : BmC b := by
  have hlf := h.fn
  have hls := h.sn
  exact ⟨hL, h.len.bn (by decide) (by decide) (by decide), h.l.bn (by decide) (by decide) (by decide), h.r.bn (by decide) (by decide) (by decide),
    fun f hf => ⟨(h.f1 f hf).bn (by decide) (by decide) (by decide), (h.f2 f hf).bn (by decide) (by decide) (by decide)⟩,
    fun s hs => ⟨(h.s1 s hs).bn (by decide) (by decide) (by decide), (h.s2 s hs).bn (by decide) (by decide) (by decide), (h.s3 s hs).bn (by decide) (by decide) (by decide)⟩, by omega, by omega⟩
end Go.Proofs.YtddadjbflgdomaaGreatDoor
namespace Go.Proofs.YtddadjbflgdomaaGreatDoor
open Go Go.RowKit Go.Am Go.Lib
set_option maxRecDepth 10000
-- BOXES 4
abbrev ptW (p : Rat × Rat) : Value := .agg #[str (numS p.1), str (numS p.2)]
abbrev spV (s : Rat × Rat × Rat) : Value := .agg #[str (numS s.1), str (numS s.2.1), str (numS s.2.2)]
abbrev sumB (c : Nat) (s : Rat) : Bx := ⟨c, 27, [str (numS s)], true, none⟩
abbrev sumO (s : Rat) : Obj := .cells [str (numS s)].toArray 27 (0, 0)
theorem numS2 : numS 2 = [50] := (congrArg numS (show (2 : Rat) = q2 2 1 by decide +kernel)).trans ns2
theorem RowAt.keep {W W' : World} {b off g : Nat} {c : List Value} (h : RowAt W b off c) (hne : b ≠ g) (hk : Keep W W' g) : RowAt W' b off c := by
  refine ⟨Nat.lt_of_lt_of_le h.lt hk.size, fun j u hu => ?_⟩
  have h2 := h.get j u hu
  have e := hk.at_ b hne h.lt
  unfold World.cell? at h2 ⊢
  simp only at h2 ⊢
  rw [e]
  exact h2
set_option maxHeartbeats 4000000 in
theorem middle_gives (s : Rat × Rat × Rat) (h : MidZ s) (W : World) (hv : MaxP W) (ht : TabP W) :
    CallsR Tryz.prog 113 #[spV s] W (fun _ : Unit => ptW ((s.1 + s.2.1) / 2, s.2.2 * (s.2.1 - s.1))) (fun _ => True) (fun _ => []) := by
  refine calls_enter (args := [spV s]) Tryz.func113 rfl rfl rfl ?_
  refine zA ?_
  refine zB ?_
  (refine wl_box rfl rfl rfl rfl ?_; intro)
  (refine wl_allocZ Tryz.hZ rfl rfl rfl rfl ?_; intro)
  refine wl_nil ?_
  refine zE ?_
  refine zA ?_
  refine zT Tryz.mixed (by kernel_rfl) ?_
  refine wq_pure Tryz.hT rfl rfl rfl ?_
  refine wq_loadBx 0 Tryz.hT rfl rfl rfl rfl rfl rfl rfl rfl ?_
  refine wq_pure Tryz.hT rfl rfl rfl ?_
  refine wq_loadBx 0 Tryz.hT rfl rfl rfl rfl rfl rfl rfl rfl ?_
  refine wq_call1 rfl rfl rfl rfl rfl rfl (by kernel_rfl) (fun W hp => badd_gives s.1 s.2.1 h.a W (hv.hp hp) (ht.hp hp)) ?_
  refine wq_call1 rfl rfl rfl rfl rfl rfl (by kernel_rfl) (fun W hp => (by have := bdiv_gives (s.1 + s.2.1) 2 h.b (by decide) W (hv.hp hp) (ht.hp hp); rwa [numS2] at this)) ?_
  refine wq_pure Tryz.hT rfl rfl rfl ?_
  refine wq_loadBx 0 Tryz.hT rfl rfl rfl rfl rfl rfl rfl rfl ?_
  refine wq_pure Tryz.hT rfl rfl rfl ?_
  refine wq_loadBx 0 Tryz.hT rfl rfl rfl rfl rfl rfl rfl rfl ?_
  refine wq_pure Tryz.hT rfl rfl rfl ?_
  refine wq_loadBx 0 Tryz.hT rfl rfl rfl rfl rfl rfl rfl rfl ?_
  refine wq_call1 rfl rfl rfl rfl rfl rfl (by kernel_rfl) (fun W hp => bsub_gives s.2.1 s.1 h.c W (hv.hp hp) (ht.hp hp)) ?_
  refine wq_call1 rfl rfl rfl rfl rfl rfl (by kernel_rfl) (fun W hp => bmul_gives s.2.2 (s.2.1 - s.1) h.d W (hv.hp hp) (ht.hp hp)) ?_
  refine wq_buildZ Tryz.hZ Tryz.hT rfl rfl rfl rfl rfl rfl rfl rfl ?_
  refine wq_nil ?_
  refine wl_storeBx 1 Tryz.hT rfl rfl rfl rfl rfl rfl rfl rfl rfl rfl rfl ?_
  refine wl_nil ?_
  refine zE ?_
  refine zO ?_
  exact ne_ret1 Tryz.hT rfl (.cell 1 rfl rfl rfl rfl rfl) () rfl trivial fun W _ => NewBx.nil _ _
/-- A call that turns the sum in block c. -/
abbrev Turns (ef : Nat) (args : List Value) (c : Nat) (W : World) (s' : Rat) : Prop :=
  Calls Tryz.prog ef args.toArray W fun e W' => ∃ x : Unit, e = .returned ((fun _ => .tuple #[]) x) ∧ (fun _ : Unit => True) x ∧ Near W W' c ((fun _ => c) x) ((fun _ => sumO s') x)
theorem turns_of {ef : Nat} {args : List Value} {c : Nat} {W : World} {s s' : Rat} (hc : W.heap[c]? = some (sumO s))
    (h : Calls Tryz.prog ef args.toArray W fun e W' => ∃ x : Unit, e = .returned ((fun _ => .tuple #[]) x) ∧ (fun _ : Unit => True) x ∧ Below (noHeap W).heap.size (noHeap W) W' ∧ NewBx (noHeap W) W' ((fun _ => [grpB (othersL W c), sumB c s']) x)) : Turns ef args c W s' := by
  refine h.mono ?_
  rintro e W' ⟨x, he, _, hb, hn⟩
  exact ⟨x, he, trivial, near_of hc rfl hb hn⟩
theorem keep2 {W W' : World} {c : Nat} {s0 s : Rat} {bxs : List Bx} (hc : W.heap[c]? = some (sumO s0)) (hp : Hp (noHeap W) (grpB (othersL W c) :: sumB c s :: bxs) W') : Keep W W' c :=
  keep_of hc ⟨_, List.mem_cons_self ..⟩ (hp.pick (l := [grpB (othersL W c), sumB c s]) [0, 1] (by decide) rfl)
set_option maxHeartbeats 4000000 in
theorem total1_gives (c : Nat) (s : Rat) (p : Rat × Rat) (W : World) (hz : Sz2 s p.2) (hc : W.heap[c]? = some (sumO s)) (hf : ∀ W', Keep W W' c → MaxP W' ∧ TabP W') :
    Turns 98 [ptW p, selfP c] c W (s + tW p) := by
  refine turns_of hc ?_
  refine calls_enterT (X := Unit) (val := fun _ => .tuple #[]) (Φ := fun _ => True) (nb := fun _ => [grpB (othersL W c), sumB c (s + tW p)]) (Hp.enterT (B := sumB c s) rfl hc) Tryz.func98 rfl rfl rfl ?_
  refine zA ?_
  refine zB ?_
  (refine wl_box rfl rfl rfl rfl ?_; intro)
  refine wl_nil ?_
  refine zE ?_
  refine zB ?_
  refine wl_loadBx 1 Tryz.hT rfl rfl rfl rfl rfl rfl rfl rfl ?_
  refine wl_pure Tryz.hT rfl rfl rfl ?_
  refine wl_loadBx 2 Tryz.hT rfl rfl rfl rfl rfl rfl rfl rfl ?_
  refine wl_call1 rfl rfl rfl rfl rfl rfl (by kernel_rfl) (fun W1 hp => (by
      obtain ⟨hv, ht⟩ := hf W1 (keep2 hc hp)
      exact badd_gives s p.2 hz W1 hv ht)) ?_
  refine wl_storeBx 1 Tryz.hT rfl rfl rfl rfl rfl rfl rfl rfl rfl rfl rfl ?_
  refine wl_nil ?_
  exact ne_end0 (X := Unit) (val := fun _ => .tuple #[]) (Φ := fun _ => True) (nb := fun _ => [grpB (othersL W c), sumB c (s + tW p)]) (fn := Tryz.f98) Tryz.hT rfl () rfl trivial fun W1 hp => (hp.pick (l := [grpB (othersL W c), sumB c (s + tW p)]) [0, 1] (by decide) rfl).own
set_option maxHeartbeats 4000000 in
theorem shear1_gives (c : Nat) (s : Rat) (p : Rat × Rat) (W : World) (hz : Sz2 s p.2) (hc : W.heap[c]? = some (sumO s)) (hf : ∀ W', Keep W W' c → MaxP W' ∧ TabP W') :
    Turns 95 [ptW p, selfP c] c W (s + tS p) := by
  have e : s + tS p = s - p.2 := by unfold tS; grind
  rw [e]
  refine turns_of hc ?_
  refine calls_enterT (X := Unit) (val := fun _ => .tuple #[]) (Φ := fun _ => True) (nb := fun _ => [grpB (othersL W c), sumB c (s - p.2)]) (Hp.enterT (B := sumB c s) rfl hc) Tryz.func95 rfl rfl rfl ?_
  refine zA ?_
  refine zB ?_
  (refine wl_box rfl rfl rfl rfl ?_; intro)
  refine wl_nil ?_
  refine zE ?_
  refine zB ?_
  refine wl_loadBx 1 Tryz.hT rfl rfl rfl rfl rfl rfl rfl rfl ?_
  refine wl_pure Tryz.hT rfl rfl rfl ?_
  refine wl_loadBx 2 Tryz.hT rfl rfl rfl rfl rfl rfl rfl rfl ?_
  refine wl_call1 rfl rfl rfl rfl rfl rfl (by kernel_rfl) (fun W1 hp => (by
      obtain ⟨hv, ht⟩ := hf W1 (keep2 hc hp)
      exact bsub_gives s p.2 hz W1 hv ht)) ?_
  refine wl_storeBx 1 Tryz.hT rfl rfl rfl rfl rfl rfl rfl rfl rfl rfl rfl ?_
  refine wl_nil ?_
  exact ne_end0 (X := Unit) (val := fun _ => .tuple #[]) (Φ := fun _ => True) (nb := fun _ => [grpB (othersL W c), sumB c (s - p.2)]) (fn := Tryz.f95) Tryz.hT rfl () rfl trivial fun W1 hp => (hp.pick (l := [grpB (othersL W c), sumB c (s - p.2)]) [0, 1] (by decide) rfl).own
set_option maxHeartbeats 4000000 in
theorem reactions1_gives (c bb : Nat) (x l : Rat) (cs : List Value) (s : Rat) (p : Rat × Rat) (W : World) (h1 : Sz2 p.1 l) (h2 : Sz2 p.2 (p.1 - l)) (h3 : Sz2 s (p.2 * (p.1 - l))) (hc : W.heap[c]? = some (sumO s)) (hf : ∀ W', Keep W W' c → RowAt W' bb 0 (str (numS x) :: str (numS l) :: cs) ∧ MaxP W' ∧ TabP W') :
    Turns 97 [ptW p, selfP c, selfP bb] c W (s + tT l p) := by
  refine turns_of hc ?_
  refine calls_enterT (X := Unit) (val := fun _ => .tuple #[]) (Φ := fun _ => True) (nb := fun _ => [grpB (othersL W c), sumB c (s + tT l p)]) (Hp.enterT (B := sumB c s) rfl hc) Tryz.func97 rfl rfl rfl ?_
  refine zA ?_
  refine zB ?_
  (refine wl_box rfl rfl rfl rfl ?_; intro)
  refine wl_nil ?_
  refine zE ?_
  refine zT Tryz.mixed (by kernel_rfl) ?_
  refine wq_loadBx 1 Tryz.hT rfl rfl rfl rfl rfl rfl rfl rfl ?_
  refine wq_pure Tryz.hT rfl rfl rfl ?_
  refine wq_loadBx 2 Tryz.hT rfl rfl rfl rfl rfl rfl rfl rfl ?_
  refine wq_pure Tryz.hT rfl rfl rfl ?_
  refine wq_loadBx 2 Tryz.hT rfl rfl rfl rfl rfl rfl rfl rfl ?_
  refine wq_pure Tryz.hT rfl rfl rfl ?_
  refine wq_load rfl rfl rfl rfl (fun W hp => RowAt.load 1 Tryz.hT rfl ((fun W1 hp => (hf W1 (keep2 hc hp)).1) W hp) rfl) ?_
  refine wq_call1 rfl rfl rfl rfl rfl rfl (by kernel_rfl) (fun W1 hp => (by
      obtain ⟨_, hv, ht⟩ := hf W1 (keep2 hc hp)
      exact bsub_gives p.1 l h1 W1 hv ht)) ?_
  refine wq_call1 rfl rfl rfl rfl rfl rfl (by kernel_rfl) (fun W1 hp => (by
      obtain ⟨_, hv, ht⟩ := hf W1 (keep2 hc hp)
      exact bmul_gives p.2 (p.1 - l) h2 W1 hv ht)) ?_
  refine wq_call1 rfl rfl rfl rfl rfl rfl (by kernel_rfl) (fun W1 hp => (by
      obtain ⟨_, hv, ht⟩ := hf W1 (keep2 hc hp)
      exact badd_gives s (p.2 * (p.1 - l)) h3 W1 hv ht)) ?_
  refine wq_nil ?_
  refine wl_storeBx 1 Tryz.hT rfl rfl rfl rfl rfl rfl rfl rfl rfl rfl rfl ?_
  refine wl_nil ?_
  exact ne_end0 (X := Unit) (val := fun _ => .tuple #[]) (Φ := fun _ => True) (nb := fun _ => [grpB (othersL W c), sumB c (s + tT l p)]) (fn := Tryz.f97) Tryz.hT rfl () rfl trivial fun W1 hp => (hp.pick (l := [grpB (othersL W c), sumB c (s + tT l p)]) [0, 1] (by decide) rfl).own
set_option maxHeartbeats 4000000 in
theorem moment1_gives (c ba : Nat) (x : Rat) (s : Rat) (p : Rat × Rat) (W : World) (h1 : Sz2 x p.1) (h2 : Sz2 p.2 (x - p.1)) (h3 : Sz2 s (p.2 * (x - p.1))) (hc : W.heap[c]? = some (sumO s)) (hf : ∀ W', Keep W W' c → RowAt W' ba 0 [str (numS x)] ∧ MaxP W' ∧ TabP W') :
    Turns 74 [ptW p, selfP c, selfP ba] c W (s + tM x p) := by
  have e : s + tM x p = s - p.2 * (x - p.1) := by unfold tM; grind
  rw [e]
  refine turns_of hc ?_
  refine calls_enterT (X := Unit) (val := fun _ => .tuple #[]) (Φ := fun _ => True) (nb := fun _ => [grpB (othersL W c), sumB c (s - p.2 * (x - p.1))]) (Hp.enterT (B := sumB c s) rfl hc) Tryz.func74 rfl rfl rfl ?_
  refine zA ?_
  refine zB ?_
  (refine wl_box rfl rfl rfl rfl ?_; intro)
  refine wl_nil ?_
  refine zE ?_
  refine zT Tryz.mixed (by kernel_rfl) ?_
  refine wq_loadBx 1 Tryz.hT rfl rfl rfl rfl rfl rfl rfl rfl ?_
  refine wq_pure Tryz.hT rfl rfl rfl ?_
  refine wq_loadBx 2 Tryz.hT rfl rfl rfl rfl rfl rfl rfl rfl ?_
  refine wq_load rfl rfl rfl rfl (fun W hp => RowAt.load 0 Tryz.hT rfl ((fun W1 hp => (hf W1 (keep2 hc hp)).1) W hp) rfl) ?_
  refine wq_pure Tryz.hT rfl rfl rfl ?_
  refine wq_loadBx 2 Tryz.hT rfl rfl rfl rfl rfl rfl rfl rfl ?_
  refine wq_call1 rfl rfl rfl rfl rfl rfl (by kernel_rfl) (fun W1 hp => (by
      obtain ⟨_, hv, ht⟩ := hf W1 (keep2 hc hp)
      exact bsub_gives x p.1 h1 W1 hv ht)) ?_
  refine wq_call1 rfl rfl rfl rfl rfl rfl (by kernel_rfl) (fun W1 hp => (by
      obtain ⟨_, hv, ht⟩ := hf W1 (keep2 hc hp)
      exact bmul_gives p.2 (x - p.1) h2 W1 hv ht)) ?_
  refine wq_call1 rfl rfl rfl rfl rfl rfl (by kernel_rfl) (fun W1 hp => (by
      obtain ⟨_, hv, ht⟩ := hf W1 (keep2 hc hp)
      exact bsub_gives s (p.2 * (x - p.1)) h3 W1 hv ht)) ?_
  refine wq_nil ?_
  refine wl_storeBx 1 Tryz.hT rfl rfl rfl rfl rfl rfl rfl rfl rfl rfl rfl ?_
  refine wl_nil ?_
  exact ne_end0 (X := Unit) (val := fun _ => .tuple #[]) (Φ := fun _ => True) (nb := fun _ => [grpB (othersL W c), sumB c (s - p.2 * (x - p.1))]) (fn := Tryz.f74) Tryz.hT rfl () rfl trivial fun W1 hp => (hp.pick (l := [grpB (othersL W c), sumB c (s - p.2 * (x - p.1))]) [0, 1] (by decide) rfl).own
/-- What `fold` calls: it adds the term t. -/
structure Each (ef : Nat) (capt : List Value) (F : World → Prop) (t : Rat × Rat → Rat) (Ok : Rat → Rat × Rat → Prop) (c : Nat) : Prop where
  ent : entersB Tryz.prog ef = true
  run : ∀ (s : Rat) (p : Rat × Rat) (W : World), Ok s p → W.heap[c]? = some (sumO s) → (∀ W', Keep W W' c → F W') → Turns ef (ptW p :: capt) c W (s + t p)
theorem each_total (c : Nat) : Each 98 [selfP c] (fun W => MaxP W ∧ TabP W) tW (fun s p => Sz2 s p.2) c := ⟨by kernel_rfl, fun s p W h hc hf => total1_gives c s p W h hc hf⟩
theorem each_shear (c : Nat) : Each 95 [selfP c] (fun W => MaxP W ∧ TabP W) tS (fun s p => Sz2 s p.2) c := ⟨by kernel_rfl, fun s p W h hc hf => shear1_gives c s p W h hc hf⟩
theorem each_turn (c bb : Nat) (x l : Rat) (cs : List Value) : Each 97 [selfP c, selfP bb] (fun W => RowAt W bb 0 (str (numS x) :: str (numS l) :: cs) ∧ MaxP W ∧ TabP W) (tT l) (fun s p => Sz2 p.1 l ∧ Sz2 p.2 (p.1 - l) ∧ Sz2 s (p.2 * (p.1 - l))) c := ⟨by kernel_rfl, fun s p W h hc hf => reactions1_gives c bb x l cs s p W h.1 h.2.1 h.2.2 hc hf⟩
theorem each_moment (c ba : Nat) (x : Rat) : Each 74 [selfP c, selfP ba] (fun W => RowAt W ba 0 [str (numS x)] ∧ MaxP W ∧ TabP W) (tM x) (fun s p => Sz2 x p.1 ∧ Sz2 p.2 (x - p.1) ∧ Sz2 s (p.2 * (x - p.1))) c := ⟨by kernel_rfl, fun s p W h hc hf => moment1_gives c ba x s p W h.1 h.2.1 h.2.2 hc hf⟩
end Go.Proofs.YtddadjbflgdomaaGreatDoor
namespace Go.Proofs.YtddadjbflgdomaaGreatDoor
open Go Go.RowKit Go.Am Go.Lib
set_option maxRecDepth 10000
-- BOXES 4
/-- Forces and spreads in memory. -/
def FosP (W : World) (p : Option Addr) (l : List (Rat × Rat)) : Prop := l = [] ∨ ∃ b off, p = some ⟨b, off, none⟩ ∧ ∀ i (hi : i < l.length), RowAt W b (off + i * 2) [str (numS l[i].1), str (numS l[i].2)]
def SpsP (W : World) (p : Option Addr) (l : List (Rat × Rat × Rat)) : Prop := l = [] ∨ ∃ b off, p = some ⟨b, off, none⟩ ∧ ∀ i (hi : i < l.length), RowAt W b (off + i * 3) [str (numS l[i].1), str (numS l[i].2.1), str (numS l[i].2.2)]
theorem FosP.below {W W' : World} {p : Option Addr} {l : List (Rat × Rat)} {n : Nat} (h : FosP W p l) (hn : W.heap.size ≤ n) (hb : Below n W W') : FosP W' p l := by
  rcases h with h | ⟨b, off, h1, h2⟩
  · exact .inl h
  · exact .inr ⟨b, off, h1, fun i hi => (h2 i hi).below hn hb⟩
theorem FosP.hp {W0 W : World} {bxs : List Bx} {p : Option Addr} {l : List (Rat × Rat)} (h : FosP W0 p l) (hp : Hp W0 bxs W) : FosP W p l := h.below (Nat.le_refl _) hp.below
theorem SpsP.below {W W' : World} {p : Option Addr} {l : List (Rat × Rat × Rat)} {n : Nat} (h : SpsP W p l) (hn : W.heap.size ≤ n) (hb : Below n W W') : SpsP W' p l := by
  rcases h with h | ⟨b, off, h1, h2⟩
  · exact .inl h
  · exact .inr ⟨b, off, h1, fun i hi => (h2 i hi).below hn hb⟩
theorem SpsP.hp {W0 W : World} {bxs : List Bx} {p : Option Addr} {l : List (Rat × Rat × Rat)} (h : SpsP W0 p l) (hp : Hp W0 bxs W) : SpsP W p l := h.below (Nat.le_refl _) hp.below
abbrev bmV (b : BmP) (p : Option Addr) (m : Nat) (q : Option Addr) (n : Nat) : Value := .agg #[str (numS b.len), str (numS b.l), str (numS b.r), .slice p b.fs.length m, .slice q b.ss.length n]
/-- A beam's loads in memory, and what its sums want. -/
structure BmM (W : World) (b : BmP) (p q : Option Addr) : Prop where
  f : FosP W p b.fs
  s : SpsP W q b.ss
  v : MaxP W
  t : TabP W
theorem BmM.below {W W' : World} {b : BmP} {p q : Option Addr} (h : BmM W b p q) (hb : Below W.heap.size W W') : BmM W' b p q :=
  ⟨h.f.below (Nat.le_refl _) hb, h.s.below (Nat.le_refl _) hb, h.v.below hb, h.t.below hb⟩
theorem BmM.hp {W0 W : World} {bxs : List Bx} {b : BmP} {p q : Option Addr} (h : BmM W0 b p q) (hp : Hp W0 bxs W) : BmM W b p q := h.below hp.below
def fosF (b : BmP) (x : Rat) (i : Nat) : List (Rat × Rat) := (b.fs.take i).filter (fun f => decide (f.1 ≤ x))
def spsF (b : BmP) (x : Rat) (j : Nat) : List (Rat × Rat) := (b.ss.take j).filterMap (sprd x)
theorem fosF_succ {b : BmP} {x : Rat} {i : Nat} (hi : i < b.fs.length) : fosF b x (i + 1) = fosF b x i ++ (if b.fs[i].1 ≤ x then [b.fs[i]] else []) := by
  unfold fosF
  rw [List.take_add_one, List.getElem?_eq_getElem hi, List.filter_append]
  congr 1
  by_cases h : b.fs[i].1 ≤ x
  · rw [if_pos h]; simp [h]
  · rw [if_neg h]; simp [h]
theorem spsF_succ {b : BmP} {x : Rat} {i : Nat} (hi : i < b.ss.length) : spsF b x (i + 1) = spsF b x i ++ (sprd x b.ss[i]).toList := by
  unfold spsF
  rw [List.take_add_one, List.getElem?_eq_getElem hi, List.filterMap_append]
  congr 1
theorem fosF_all (b : BmP) (x : Rat) : fosF b x b.fs.length ++ spsF b x b.ss.length = b.pts x := by
  unfold fosF spsF BmP.pts
  rw [List.take_length, List.take_length]
theorem fosF_split {b : BmP} {x : Rat} {i : Nat} (hi : i < b.fs.length) (h : b.fs[i].1 ≤ x) : b.pts x = fosF b x i ++ b.fs[i] :: ((b.fs.drop (i + 1)).filter (fun f => decide (f.1 ≤ x)) ++ b.ss.filterMap (sprd x)) := by
  have e : b.fs.filter (fun f => decide (f.1 ≤ x)) = fosF b x i ++ b.fs[i] :: (b.fs.drop (i + 1)).filter (fun f => decide (f.1 ≤ x)) := by
    conv => lhs; rw [← List.take_append_drop i b.fs, List.drop_eq_getElem_cons hi, List.filter_append]
    congr 1
    rw [List.filter_cons_of_pos (by simpa using h)]
  unfold BmP.pts
  rw [e, List.append_assoc]
  rfl
theorem spsF_split {b : BmP} {x : Rat} {j : Nat} {pt : Rat × Rat} (hj : j < b.ss.length) (h : sprd x b.ss[j] = some pt) : b.pts x = (fosF b x b.fs.length ++ spsF b x j) ++ pt :: (b.ss.drop (j + 1)).filterMap (sprd x) := by
  have e : b.ss.filterMap (sprd x) = spsF b x j ++ pt :: (b.ss.drop (j + 1)).filterMap (sprd x) := by
    conv => lhs; rw [← List.take_append_drop j b.ss, List.drop_eq_getElem_cons hj, List.filterMap_append]
    congr 1
    rw [List.filterMap_cons_some h]
  unfold BmP.pts
  rw [e, ← List.append_assoc]
  unfold fosF
  rw [List.take_length]
set_option maxHeartbeats 16000000 in
theorem fold_gives {ef : Nat} {capt : List Value} {F : World → Prop} {t : Rat × Rat → Rat} {Ok : Rat → Rat × Rat → Prop} {c : Nat} (he : Each ef capt F t Ok c) (b : BmP) (x : Rat) (p q : Option Addr) (m n : Nat) (s0 : Rat) (W : World)
    (hc : W.heap[c]? = some (sumO s0)) (hf : ∀ W', Keep W W' c → F W' ∧ BmM W' b p q) (hz : FoldZ b x) (hlf : b.fs.length ≤ 1000) (hls : b.ss.length ≤ 1000) (hok : ∀ l1 pt l2, b.pts x = l1 ++ pt :: l2 → Ok (accQ t s0 l1) pt) :
    Turns 73 [bmV b p m q n, str (numS x), .func (.func ef) #[] capt.toArray] c W (accQ t s0 (b.pts x)) := by
  refine turns_of hc ?_
  refine calls_enterT (X := Unit) (val := fun _ => .tuple #[]) (Φ := fun _ => True) (nb := fun _ => [grpB (othersL W c), sumB c (accQ t s0 (b.pts x))]) (Hp.enterT (B := sumB c s0) rfl hc) Tryz.func73 rfl rfl rfl ?_
  refine zA ?_
  refine zB ?_
  (refine wl_box rfl rfl rfl rfl ?_; intro)
  refine wl_nil ?_
  rename_i b3
  refine zE ?_
  iterate 2 refine zA ?_
  refine zB ?_
  refine wl_pure Tryz.hT rfl rfl rfl ?_
  refine wl_loadBx 2 Tryz.hT rfl rfl rfl rfl rfl rfl rfl rfl ?_
  iterate 2 refine wl_pure Tryz.hT rfl rfl rfl ?_
  refine wl_nil ?_
  refine zE ?_
  refine zH ?_
  have hM : ∀ {s : Rat} {bxs : List Bx} {W1 : World}, Hp (noHeap W) (grpB (othersL W c) :: sumB c s :: bxs) W1 → BmM W1 b p q := fun hp => (hf _ (keep2 hc hp)).2
  refine wc_loop (X := Nat) (fun i => [(1, str (numS x)), (2, .func (.func ef) #[] capt.toArray), (3, selfP b3), (11, .slice p b.fs.length m), (12, .int .i64 (b.fs.length : Nat)), (13, .int .i64 (i : Nat))]) (fun i => [grpB (othersL W c), sumB c (accQ t s0 (fosF b x i)), ⟨b3, 31, (bmV b p m q n).cells.toList, true, none⟩])
    (fun i => i ≤ b.fs.length) (fun i => b.fs.length - i) 0 (Nat.zero_le _) ⟨rfl, rfl, rfl, rfl, rfl, rfl, trivial⟩ [] rfl ?_
  intro i hi
  have hi : i ≤ b.fs.length := hi
  refine zA ?_
  refine zB ?_
  refine wl_pure Tryz.hT rfl rfl rfl ?_
  by_cases hlt : i < b.fs.length
  · refine wl_upd 14 (.bool true) rfl (congrArg Value.bool (decide_eq_true (by omega))) ?_
    refine wl_nil ?_
    refine zE ?_
    refine zA ?_
    refine zR rfl ?_
    refine zI ?_
    refine zE ?_
    refine zA ?_
    refine zH ?_
    refine zA ?_
    refine zB ?_
    obtain ⟨s, hs⟩ : ∃ s, s = accQ t s0 (fosF b x i) := ⟨_, rfl⟩
    obtain ⟨f, hfe⟩ : ∃ f, f = b.fs[i] := ⟨_, rfl⟩
    have hfm : f ∈ b.fs := hfe ▸ List.getElem_mem hlt
    obtain ⟨g, off, hpe, hrow⟩ : ∃ g off, p = some ⟨g, off, none⟩ ∧ ∀ W1, BmM W1 b p q → RowAt W1 g (off + i * 2) [str (numS f.1), str (numS f.2)] := by
      rcases (hf W ⟨rfl, rfl, rfl, Nat.le_refl _, fun _ _ _ => rfl⟩).2.f with h | ⟨g, off, e, _⟩
      · rw [h] at hlt; exact absurd hlt (Nat.not_lt_zero _)
      · refine ⟨g, off, e, fun W1 h1 => ?_⟩
        rcases h1.f with h | ⟨g', off', e', h2⟩
        · rw [h] at hlt; exact absurd hlt (Nat.not_lt_zero _)
        · rw [e] at e'
          cases e'
          rw [hfe]
          exact h2 i hlt
    rw [← hs]
    subst hpe
    refine wl_indexAddr Tryz.hT rfl rfl rfl rfl rfl rfl rfl (by omega) (by omega) ?_
    refine wl_load rfl rfl rfl rfl (fun W hp => RowAt.load 0 Tryz.hT rfl ((fun W1 hp => hrow W1 (hM hp)) W hp) rfl) ?_
    (refine wl_allocZ Tryz.hZ rfl rfl rfl rfl ?_; intro)
    refine wl_storeBx 3 Tryz.hT rfl rfl rfl rfl rfl rfl rfl rfl rfl rfl rfl ?_
    refine wl_nil ?_
    refine zE ?_
    refine zA ?_
    refine zB ?_
    refine wl_pure Tryz.hT rfl rfl rfl ?_
    refine wl_loadBx 3 Tryz.hT rfl rfl rfl rfl rfl rfl rfl rfl ?_
    refine wl_pure Tryz.hT rfl rfl rfl ?_
    refine wl_call1 rfl rfl rfl rfl rfl rfl (by kernel_rfl) (fun W1 hp => bcompare_gives f.1 x (hz.f f hfm) W1 (hM hp).v (hM hp).t) ?_
    refine wl_pure Tryz.hT rfl rfl rfl ?_
    refine wl_upd 21 (.bool (decide (f.1 ≤ x))) rfl (congrArg Value.bool (cmpQ_le0 f.1 x)) ?_
    refine wl_nil ?_
    refine zE ?_
    refine wc_cond rfl (fun h => ?_) (fun h => ?_)
    · have hle : f.1 ≤ x := of_decide_eq_true h
      clear h
      have hsp := fosF_split hlt (by rw [← hfe]; exact hle)
      rw [← hfe] at hsp
      have hO := hok _ _ _ hsp
      rw [← hs] at hO
      refine zB ?_
      iterate 2 refine wl_pure Tryz.hT rfl rfl rfl ?_
      refine wl_loadBx 3 Tryz.hT rfl rfl rfl rfl rfl rfl rfl rfl ?_
      refine wl_pure Tryz.hT rfl rfl rfl ?_
      refine wl_loadBx 3 Tryz.hT rfl rfl rfl rfl rfl rfl rfl rfl ?_
      refine wl_buildZ Tryz.hZ Tryz.hT rfl rfl rfl rfl rfl rfl rfl rfl ?_
      refine wl_callN (X := Unit) (val := fun _ => .tuple #[]) (Φ := fun _ => True) (capt := capt) 1 (B := sumB c s) (L1 := []) (L2 := []) (b := c) (ob := sumO s) (fun _ => sumB c (s + t f)) (g' := fun _ => c) (o' := fun _ => sumO (s + t f))
        rfl rfl rfl rfl rfl rfl he.ent rfl rfl (fun _ _ => rfl) (fun W1 hp => he.run s f W1 hO (hp.own.cell 1 _ rfl (c, sumO s) (List.mem_cons_self ..)).1 (fun W2 hk => (hf W2 ((keep2 hc hp).trans hk)).1)) (fun _ _ => ?_)
      refine wl_nil ?_
      refine zN ?_
      refine zE ?_
      refine zB ?_
      refine wl_pure Tryz.hT rfl rfl rfl ?_
      refine wl_upd 29 (.int .i64 ((i + 1 : Nat) : Int)) rfl (congrArg (Value.int .i64) (w64_succ (by omega))) ?_
      refine wl_pure Tryz.hT rfl rfl rfl ?_
      refine wl_nil ?_
      exact ne_loop (i + 1) hlt (by show b.fs.length - (i + 1) < b.fs.length - i; omega) ⟨rfl, rfl, rfl, rfl, rfl, rfl, trivial⟩ [_] (by rw [fosF_succ hlt, ← hfe, if_pos hle, accQ_snoc, ← hs]; rfl)
    · have hle : ¬ f.1 ≤ x := of_decide_eq_false h
      clear h
      refine zI ?_
      refine zN ?_
      refine zE ?_
      refine zB ?_
      refine wl_pure Tryz.hT rfl rfl rfl ?_
      refine wl_upd 29 (.int .i64 ((i + 1 : Nat) : Int)) rfl (congrArg (Value.int .i64) (w64_succ (by omega))) ?_
      refine wl_pure Tryz.hT rfl rfl rfl ?_
      refine wl_nil ?_
      exact ne_loop (i + 1) hlt (by show b.fs.length - (i + 1) < b.fs.length - i; omega) ⟨rfl, rfl, rfl, rfl, rfl, rfl, trivial⟩ [_] (by rw [fosF_succ hlt, ← hfe, if_neg hle, List.append_nil, ← hs]; rfl)
  have e : i = b.fs.length := by omega
  subst e
  refine wl_upd 14 (.bool false) rfl (congrArg Value.bool (decide_eq_false (by omega))) ?_
  refine wl_nil ?_
  refine zE ?_
  refine zA ?_
  refine zS rfl ?_
  refine zJ ?_
  iterate 2 refine zK ?_
  refine zL ?_
  refine zE ?_
  refine zA ?_
  refine zB ?_
  refine wl_pure Tryz.hT rfl rfl rfl ?_
  refine wl_loadBx 2 Tryz.hT rfl rfl rfl rfl rfl rfl rfl rfl ?_
  iterate 2 refine wl_pure Tryz.hT rfl rfl rfl ?_
  refine wl_nil ?_
  refine zE ?_
  refine zH ?_
  refine wc_loop (X := Nat) (fun i => [(1, str (numS x)), (2, .func (.func ef) #[] capt.toArray), (31, .slice q b.ss.length n), (32, .int .i64 (b.ss.length : Nat)), (33, .int .i64 (i : Nat))]) (fun i => [grpB (othersL W c), sumB c (accQ t s0 (fosF b x b.fs.length ++ spsF b x i)), ⟨b3, 31, (bmV b p m q n).cells.toList, true, none⟩])
    (fun i => i ≤ b.ss.length) (fun i => b.ss.length - i) 0 (Nat.zero_le _) ⟨rfl, rfl, rfl, rfl, rfl, trivial⟩ [] (by show _ = [grpB (othersL W c), sumB c (accQ t s0 (fosF b x b.fs.length ++ [])), (⟨b3, 31, (bmV b p m q n).cells.toList, true, none⟩ : Bx)] ++ []; rw [List.append_nil (fosF b x b.fs.length)]; rfl) ?_
  intro i hi
  have hi : i ≤ b.ss.length := hi
  refine zA ?_
  refine zB ?_
  refine wl_pure Tryz.hT rfl rfl rfl ?_
  by_cases hlt : i < b.ss.length
  · refine wl_upd 34 (.bool true) rfl (congrArg Value.bool (decide_eq_true (by omega))) ?_
    refine wl_nil ?_
    refine zE ?_
    refine zA ?_
    refine zR rfl ?_
    refine zI ?_
    refine zE ?_
    refine zA ?_
    refine zH ?_
    refine zA ?_
    refine zB ?_
    obtain ⟨s, hs⟩ : ∃ s, s = accQ t s0 (fosF b x b.fs.length ++ spsF b x i) := ⟨_, rfl⟩
    obtain ⟨f, hfe⟩ : ∃ f, f = b.ss[i] := ⟨_, rfl⟩
    have hfm : f ∈ b.ss := hfe ▸ List.getElem_mem hlt
    obtain ⟨g, off, hpe, hrow⟩ : ∃ g off, q = some ⟨g, off, none⟩ ∧ ∀ W1, BmM W1 b p q → RowAt W1 g (off + i * 3) [str (numS f.1), str (numS f.2.1), str (numS f.2.2)] := by
      rcases (hf W ⟨rfl, rfl, rfl, Nat.le_refl _, fun _ _ _ => rfl⟩).2.s with h | ⟨g, off, e, _⟩
      · rw [h] at hlt; exact absurd hlt (Nat.not_lt_zero _)
      · refine ⟨g, off, e, fun W1 h1 => ?_⟩
        rcases h1.s with h | ⟨g', off', e', h2⟩
        · rw [h] at hlt; exact absurd hlt (Nat.not_lt_zero _)
        · rw [e] at e'
          cases e'
          rw [hfe]
          exact h2 i hlt
    obtain ⟨tt, htt⟩ : ∃ tt, tt = cut x f := ⟨_, rfl⟩
    rw [← hs]
    subst hpe
    refine wl_indexAddr Tryz.hT rfl rfl rfl rfl rfl rfl rfl (by omega) (by omega) ?_
    refine wl_load rfl rfl rfl rfl (fun W hp => RowAt.load 0 Tryz.hT rfl ((fun W1 hp => hrow W1 (hM hp)) W hp) rfl) ?_
    (refine wl_allocZ Tryz.hZ rfl rfl rfl rfl ?_; intro)
    refine wl_storeBx 3 Tryz.hT rfl rfl rfl rfl rfl rfl rfl rfl rfl rfl rfl ?_
    refine wl_nil ?_
    rename_i b9
    refine zE ?_
    iterate 2 refine zA ?_
    refine zB ?_
    refine wl_pure Tryz.hT rfl rfl rfl ?_
    refine wl_loadBx 3 Tryz.hT rfl rfl rfl rfl rfl rfl rfl rfl ?_
    refine wl_pure Tryz.hT rfl rfl rfl ?_
    refine wl_call1 rfl rfl rfl rfl rfl rfl (by kernel_rfl) (fun W1 hp => bcompare_gives f.2.1 x (hz.s f hfm) W1 (hM hp).v (hM hp).t) ?_
    refine wl_pure Tryz.hT rfl rfl rfl ?_
    refine wl_upd 41 (.bool (decide (x < f.2.1))) rfl (congrArg Value.bool (cmpQ_gt0 f.2.1 x)) ?_
    refine wl_nil ?_
    refine ne_then ?_
    try refine wc_seq ?_
    refine wc_cutS (X := Unit) (fun _ => [(1, str (numS x)), (2, .func (.func ef) #[] capt.toArray), (9, selfP b9), (31, .slice (some ⟨g, off, none⟩) b.ss.length n), (32, .int .i64 (b.ss.length : Nat)), (33, .int .i64 (i : Nat))]) (fun _ => [grpB (othersL W c), sumB c s, ⟨b3, 31, (bmV b p m (some ⟨g, off, none⟩) n).cells.toList, true, none⟩, ⟨b9, 51, (spV (f.1, tt, f.2.2)).cells.toList, true, none⟩]) (fun _ => True) ?_ ?_
    · refine wc_cond rfl (fun h => ?_) (fun h => ?_)
      · have hle : x < f.2.1 := of_decide_eq_true h
        refine zB ?_
        iterate 2 refine wl_pure Tryz.hT rfl rfl rfl ?_
        refine wl_storeBx 3 Tryz.hT rfl rfl rfl rfl rfl rfl rfl rfl rfl rfl rfl ?_
        refine wl_nil ?_
        exact ne_cut () trivial ⟨rfl, rfl, rfl, rfl, rfl, rfl, trivial⟩ [] (by rw [htt, show cut x f = x from if_pos hle]; rfl)
      · have hle : ¬ x < f.2.1 := of_decide_eq_false h
        refine zI ?_
        exact ne_cut () trivial ⟨rfl, rfl, rfl, rfl, rfl, rfl, trivial⟩ [] (by rw [htt, show cut x f = f.2.1 from if_neg hle]; rfl)
    intro _ _
    refine zA ?_
    refine zB ?_
    refine wl_pure Tryz.hT rfl rfl rfl ?_
    refine wl_loadBx 3 Tryz.hT rfl rfl rfl rfl rfl rfl rfl rfl ?_
    refine wl_pure Tryz.hT rfl rfl rfl ?_
    refine wl_loadBx 3 Tryz.hT rfl rfl rfl rfl rfl rfl rfl rfl ?_
    refine wl_call1 rfl rfl rfl rfl rfl rfl (by kernel_rfl) (fun W1 hp => bcompare_gives f.1 tt (htt ▸ hz.c f hfm) W1 (hM hp).v (hM hp).t) ?_
    refine wl_pure Tryz.hT rfl rfl rfl ?_
    refine wl_upd 49 (.bool (decide (f.1 < tt))) rfl (congrArg Value.bool (cmpQ_lt0 f.1 tt)) ?_
    refine wl_nil ?_
    refine zE ?_
    have hsf := sprd_cut x f
    rw [← htt] at hsf
    refine wc_cond rfl (fun h => ?_) (fun h => ?_)
    · have hle : f.1 < tt := of_decide_eq_true h
      clear h
      rw [if_pos hle] at hsf
      obtain ⟨pt, hpt⟩ : ∃ pt : Rat × Rat, pt = ((f.1 + tt) / 2, f.2.2 * (tt - f.1)) := ⟨_, rfl⟩
      rw [← hpt] at hsf
      have hsp := spsF_split (b := b) (x := x) hlt (by rw [← hfe]; exact hsf)
      have hO := hok _ _ _ hsp
      rw [← hs] at hO
      refine zB ?_
      refine wl_pure Tryz.hT rfl rfl rfl ?_
      refine wl_loadBx 3 Tryz.hT rfl rfl rfl rfl rfl rfl rfl rfl ?_
      refine wl_call1 rfl rfl rfl rfl rfl rfl (by kernel_rfl) (fun W1 hp => (middle_gives (f.1, tt, f.2.2) (htt ▸ hz.m f hfm) W1 (hM hp).v (hM hp).t).cast (show _ = ptW pt by rw [hpt])) ?_
      refine wl_callN (X := Unit) (val := fun _ => .tuple #[]) (Φ := fun _ => True) (capt := capt) 1 (B := sumB c s) (L1 := []) (L2 := []) (b := c) (ob := sumO s) (fun _ => sumB c (s + t pt)) (g' := fun _ => c) (o' := fun _ => sumO (s + t pt))
        rfl rfl rfl rfl rfl rfl he.ent rfl rfl (fun _ _ => rfl) (fun W1 hp => he.run s pt W1 hO (hp.own.cell 1 _ rfl (c, sumO s) (List.mem_cons_self ..)).1 (fun W2 hk => (hf W2 ((keep2 hc hp).trans hk)).1)) (fun _ _ => ?_)
      refine wl_nil ?_
      refine zN ?_
      refine zE ?_
      refine zB ?_
      refine wl_pure Tryz.hT rfl rfl rfl ?_
      refine wl_upd 54 (.int .i64 ((i + 1 : Nat) : Int)) rfl (congrArg (Value.int .i64) (w64_succ (by omega))) ?_
      refine wl_pure Tryz.hT rfl rfl rfl ?_
      refine wl_nil ?_
      exact ne_loop (i + 1) hlt (by show b.ss.length - (i + 1) < b.ss.length - i; omega) ⟨rfl, rfl, rfl, rfl, rfl, trivial⟩ [_] (by rw [spsF_succ hlt, ← hfe, hsf, ← List.append_assoc, show (some pt).toList = [pt] from rfl, accQ_snoc, ← hs]; rfl)
    · have hle : ¬ f.1 < tt := of_decide_eq_false h
      clear h
      rw [if_neg hle] at hsf
      refine zI ?_
      refine zN ?_
      refine zE ?_
      refine zB ?_
      refine wl_pure Tryz.hT rfl rfl rfl ?_
      refine wl_upd 54 (.int .i64 ((i + 1 : Nat) : Int)) rfl (congrArg (Value.int .i64) (w64_succ (by omega))) ?_
      refine wl_pure Tryz.hT rfl rfl rfl ?_
      refine wl_nil ?_
      exact ne_loop (i + 1) hlt (by show b.ss.length - (i + 1) < b.ss.length - i; omega) ⟨rfl, rfl, rfl, rfl, rfl, trivial⟩ [_] (by rw [spsF_succ hlt, ← hfe, hsf, show (none : Option (Rat × Rat)).toList = [] from rfl, List.append_nil, ← hs]; rfl)
  have e : i = b.ss.length := by omega
  subst e
  refine wl_upd 34 (.bool false) rfl (congrArg Value.bool (decide_eq_false (by omega))) ?_
  refine wl_nil ?_
  refine zE ?_
  refine zA ?_
  refine zS rfl ?_
  refine zJ ?_
  iterate 2 refine zK ?_
  refine zL ?_
  refine ne_end0 (X := Unit) (val := fun _ => .tuple #[]) (Φ := fun _ => True) (nb := fun _ => [grpB (othersL W c), sumB c (accQ t s0 (b.pts x))]) (fn := Tryz.f73) Tryz.hT rfl () rfl trivial fun W1 hp => ?_
  rw [fosF_all] at hp
  exact (hp.pick (l := [grpB (othersL W c), sumB c (accQ t s0 (b.pts x))]) [0, 1] (by decide) rfl).own
end Go.Proofs.YtddadjbflgdomaaGreatDoor
namespace Go.Proofs.YtddadjbflgdomaaGreatDoor
open Go Go.RowKit Go.Am Go.Lib
set_option maxRecDepth 10000
-- BOXES 3
theorem ne_bx {N : Nat} {D : List Deferred} {Q : Exit → Act → World → Prop} {ex : Exit} {env : Env} {W0 : World} {bxs bxs' : List Bx} (e : bxs = bxs') (h : NE N D Q ex env (Hp W0 bxs')) : NE N D Q ex env (Hp W0 bxs) := e ▸ h
theorem BmM.keep {W0 W W' : World} {bxs : List Bx} {b : BmP} {p q : Option Addr} {c : Nat} (h : BmM W0 b p q) (hp : Hp W0 bxs W) (hk : Keep W W' c) (hc : W0.heap.size ≤ c) : BmM W' b p q := h.below (hk.below hp.below hc)
abbrev bmB (g : Nat) (b : BmP) (p : Option Addr) (m : Nat) (q : Option Addr) (n : Nat) : Bx := ⟨g, 31, (bmV b p m q n).cells.toList, true, none⟩
set_option maxHeartbeats 4000000 in
theorem total_gives (b : BmP) (p q : Option Addr) (m n : Nat) (W : World) (hM : BmM W b p q) (hz : RcZ b) :
    CallsR Tryz.prog 57 #[bmV b p m q n] W (fun _ : Unit => str (numS b.total)) (fun _ => True) (fun _ => []) := by
  refine calls_enter (args := [bmV b p m q n]) Tryz.func57 rfl rfl rfl ?_
  refine zA ?_
  refine zB ?_
  (refine wl_box rfl rfl rfl rfl ?_; intro)
  refine wl_pure Tryz.hT rfl rfl rfl ?_
  refine wl_nil ?_
  rename_i b1
  refine zE ?_
  refine zA ?_
  refine zB ?_
  (refine wl_allocZ Tryz.hZ rfl rfl rfl rfl ?_; intro)
  refine wl_storeBx 1 Tryz.hT rfl rfl rfl rfl rfl rfl rfl rfl rfl rfl rfl ?_
  refine wl_nil ?_
  rename_i b3
  refine ne_bx (bxs' := [bmB b1 b p m q n, sumB b3 0]) (by show _ = [bmB b1 b p m q n, (⟨b3, 27, [str (numS 0)], true, none⟩ : Bx)]; rw [numS_zero]; rfl) ?_
  refine zE ?_
  refine zA ?_
  refine zB ?_
  refine wl_loadBx 0 Tryz.hT rfl rfl rfl rfl rfl rfl rfl rfl ?_
  refine wl_pure Tryz.hT rfl rfl rfl ?_
  refine wl_loadBx 0 Tryz.hT rfl rfl rfl rfl rfl rfl rfl rfl ?_
  refine wl_pure Tryz.hT rfl rfl rfl ?_
  refine wl_callN (X := Unit) (val := fun _ => .tuple #[]) (Φ := fun _ => True) (capt := []) 1 (B := sumB b3 0) (L1 := []) (L2 := []) (b := b3) (ob := sumO 0) (fun _ => sumB b3 b.total) (g' := fun _ => b3) (o' := fun _ => sumO b.total)
    rfl rfl rfl rfl rfl rfl (by kernel_rfl) rfl rfl (fun _ _ => rfl) (fun W1 hp => ?_) (fun _ _ => ?_)
  · have hcell := hp.own.cell 1 _ rfl (b3, sumO 0) (List.mem_cons_self ..)
    have h1 := fold_gives (each_total b3) b b.len p q m n 0 W1 hcell.1 (fun W2 hk => ⟨⟨(hM.keep hp hk hcell.2).v, (hM.keep hp hk hcell.2).t⟩, hM.keep hp hk hcell.2⟩) hz.z hz.lf hz.ls hz.w
    rw [← total_acc] at h1
    exact h1
  refine wl_nil ?_
  refine zE ?_
  refine zA ?_
  refine zB ?_
  refine wl_loadBx 1 Tryz.hT rfl rfl rfl rfl rfl rfl rfl rfl ?_
  refine wl_pure Tryz.hT rfl rfl rfl ?_
  refine wl_nil ?_
  refine zE ?_
  refine zO ?_
  exact ne_ret1 Tryz.hT rfl (.tmp rfl) () rfl trivial fun W _ => NewBx.nil _ _
set_option maxHeartbeats 4000000 in
theorem reactions_gives (b : BmP) (p q : Option Addr) (m n : Nat) (W : World) (hM : BmM W b p q) (hz : RcZ b) :
    CallsR Tryz.prog 56 #[bmV b p m q n] W (fun _ : Unit => .tuple #[str (numS b.left), str (numS b.right)]) (fun _ => True) (fun _ => []) := by
  refine calls_enter (args := [bmV b p m q n]) Tryz.func56 rfl rfl rfl ?_
  refine zA ?_
  refine zB ?_
  (refine wl_box rfl rfl rfl rfl ?_; intro)
  iterate 2 refine wl_pure Tryz.hT rfl rfl rfl ?_
  refine wl_nil ?_
  rename_i b1
  refine zE ?_
  refine zA ?_
  refine zB ?_
  (refine wl_allocZ Tryz.hZ rfl rfl rfl rfl ?_; intro)
  refine wl_storeBx 1 Tryz.hT rfl rfl rfl rfl rfl rfl rfl rfl rfl rfl rfl ?_
  refine wl_nil ?_
  rename_i b4
  refine ne_bx (bxs' := [bmB b1 b p m q n, sumB b4 0]) (by show _ = [bmB b1 b p m q n, (⟨b4, 27, [str (numS 0)], true, none⟩ : Bx)]; rw [numS_zero]; rfl) ?_
  refine zE ?_
  refine zA ?_
  refine zB ?_
  refine wl_loadBx 0 Tryz.hT rfl rfl rfl rfl rfl rfl rfl rfl ?_
  refine wl_pure Tryz.hT rfl rfl rfl ?_
  refine wl_loadBx 0 Tryz.hT rfl rfl rfl rfl rfl rfl rfl rfl ?_
  refine wl_pure Tryz.hT rfl rfl rfl ?_
  refine wl_callN (X := Unit) (val := fun _ => .tuple #[]) (Φ := fun _ => True) (capt := []) 1 (B := sumB b4 0) (L1 := []) (L2 := []) (b := b4) (ob := sumO 0) (fun _ => sumB b4 b.turn) (g' := fun _ => b4) (o' := fun _ => sumO b.turn)
    rfl rfl rfl rfl rfl rfl (by kernel_rfl) rfl rfl (fun _ _ => rfl) (fun W1 hp => ?_) (fun _ _ => ?_)
  · have hcell := hp.own.cell 1 _ rfl (b4, sumO 0) (List.mem_cons_self ..)
    have hne : b1 ≠ b4 := hp.own.apart 0 1 _ _ rfl rfl (by decide) (b1, .cells (bmV b p m q n).cells.toList.toArray 31 (0, 0)) (List.mem_cons_self ..) (b4, sumO 0) (List.mem_cons_self ..)
    have hrow : RowAt W1 b1 0 [str (numS b.len), str (numS b.l), str (numS b.r), .slice p b.fs.length m, .slice q b.ss.length n] := RowAt.of_bx hp 0 rfl rfl
    have h1 := fold_gives (each_turn b4 b1 b.len b.l [str (numS b.r), .slice p b.fs.length m, .slice q b.ss.length n]) b b.len p q m n 0 W1 hcell.1 (fun W2 hk => ⟨⟨RowAt.keep hrow hne hk, (hM.keep hp hk hcell.2).v, (hM.keep hp hk hcell.2).t⟩, hM.keep hp hk hcell.2⟩) hz.z hz.lf hz.ls hz.t
    rw [← turn_acc] at h1
    exact h1
  refine wl_nil ?_
  refine zE ?_
  refine zA ?_
  refine zT Tryz.mixed (by kernel_rfl) ?_
  refine wq_loadBx 1 Tryz.hT rfl rfl rfl rfl rfl rfl rfl rfl ?_
  refine wq_pure Tryz.hT rfl rfl rfl ?_
  refine wq_loadBx 0 Tryz.hT rfl rfl rfl rfl rfl rfl rfl rfl ?_
  refine wq_pure Tryz.hT rfl rfl rfl ?_
  refine wq_loadBx 0 Tryz.hT rfl rfl rfl rfl rfl rfl rfl rfl ?_
  refine wq_call1 rfl rfl rfl rfl rfl rfl (by kernel_rfl) (fun W1 hp => bsub_gives b.r b.l hz.d1 W1 (hM.v.hp hp) (hM.t.hp hp)) ?_
  refine wq_call1 rfl rfl rfl rfl rfl rfl (by kernel_rfl) (fun W1 hp => bdiv_gives b.turn (b.r - b.l) hz.d2 hz.nz W1 (hM.v.hp hp) (hM.t.hp hp)) ?_
  refine wq_pure Tryz.hT rfl rfl rfl ?_
  refine wq_nil ?_
  refine wl_nil ?_
  refine zE ?_
  refine zA ?_
  refine zB ?_
  refine wl_loadBx 0 Tryz.hT rfl rfl rfl rfl rfl rfl rfl rfl ?_
  refine wl_call1 rfl rfl rfl rfl rfl rfl (by kernel_rfl) (fun W1 hp => total_gives b p q m n W1 (hM.hp hp) hz) ?_
  refine wl_pure Tryz.hT rfl rfl rfl ?_
  refine wl_call1 rfl rfl rfl rfl rfl rfl (by kernel_rfl) (fun W1 hp => bsub_gives b.total b.right hz.s W1 (hM.v.hp hp) (hM.t.hp hp)) ?_
  iterate 3 refine wl_pure Tryz.hT rfl rfl rfl ?_
  refine wl_nil ?_
  refine zE ?_
  refine zO ?_
  exact ne_ret2 Tryz.hT rfl (.tmp rfl) (.tmp rfl) () rfl trivial fun W _ => NewBx.nil _ _
abbrev supV (g : Nat) (b : BmP) : Bx := ⟨g, 115, [str (numS b.l), str (numS b.left), str (numS b.r), str (numS b.right)], true, none⟩
set_option maxHeartbeats 4000000 in
theorem supports_gives (b : BmP) (p q : Option Addr) (m n : Nat) (W : World) (hM : BmM W b p q) (hz : RcZ b) :
    CallsR Tryz.prog 71 #[bmV b p m q n] W (fun g : Nat => .slice (some ⟨g, 0, none⟩) 2 2) (fun _ => True) (fun g => [supV g b]) := by
  refine calls_enter (args := [bmV b p m q n]) Tryz.func71 rfl rfl rfl ?_
  refine zA ?_
  refine zB ?_
  (refine wl_box rfl rfl rfl rfl ?_; intro)
  refine wl_pure Tryz.hT rfl rfl rfl ?_
  refine wl_nil ?_
  refine zE ?_
  refine zA ?_
  refine zB ?_
  refine wl_loadBx 0 Tryz.hT rfl rfl rfl rfl rfl rfl rfl rfl ?_
  refine wl_call1 rfl rfl rfl rfl rfl rfl (by kernel_rfl) (fun W1 hp => reactions_gives b p q m n W1 (hM.hp hp) hz) ?_
  iterate 5 refine wl_pure Tryz.hT rfl rfl rfl ?_
  refine wl_nil ?_
  refine zE ?_
  refine zA ?_
  refine zB ?_
  refine wl_pure Tryz.hT rfl rfl rfl ?_
  refine wl_loadBx 0 Tryz.hT rfl rfl rfl rfl rfl rfl rfl rfl ?_
  refine wl_pure Tryz.hT rfl rfl rfl ?_
  refine wl_buildZ Tryz.hZ Tryz.hT rfl rfl rfl rfl rfl rfl rfl rfl ?_
  refine wl_pure Tryz.hT rfl rfl rfl ?_
  refine wl_loadBx 0 Tryz.hT rfl rfl rfl rfl rfl rfl rfl rfl ?_
  refine wl_pure Tryz.hT rfl rfl rfl ?_
  refine wl_buildZ Tryz.hZ Tryz.hT rfl rfl rfl rfl rfl rfl rfl rfl ?_
  refine wl_buildRowZ Tryz.hZ Tryz.hT rfl rfl rfl rfl rfl rfl rfl rfl rfl rfl rfl fun bS => ?_
  refine wl_pure Tryz.hT rfl rfl rfl ?_
  refine wl_nil ?_
  refine zE ?_
  refine zO ?_
  exact ne_ret1 Tryz.hT rfl (.tmp rfl) bS rfl trivial fun W1 hp => NewBx.of_hp (hp.pick (l := [supV bS b]) [1] (by decide) rfl)
end Go.Proofs.YtddadjbflgdomaaGreatDoor
