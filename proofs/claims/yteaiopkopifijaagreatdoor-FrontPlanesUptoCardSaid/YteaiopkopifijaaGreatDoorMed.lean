/-
  Lemmas that the theorem frontMeets_upto_card needs (part 4 of 5).
-/
import Derived.Test.YteaiopkopifijaaGreatDoorMec
import Derived.Lib.SlicesCompact
import Derived.Shelf.Lays
import Derived.Shelf.SlLaysN
import Derived.Shelf.Small.Bits
namespace Go.Proofs.YteaiopkopifijaaGreatDoor
open Go Go.RowKit Go.Am Go.Lib
set_option maxRecDepth 10000
-- BOXES 3
theorem hasPrefix_itoa (z : Int) : hasPrefix (itoa z) [45] = decide (z < 0) := by
  rw [hasPrefix45]
  refine decide_eq_decide.2 ?_
  unfold itoa
  split
  · rename_i h; exact ⟨fun _ => h, fun _ => rfl⟩
  · rename_i h
    obtain ⟨b, r, hb, h3, h4⟩ := first_digit z.toNat
    rw [hb]
    constructor
    · intro e
      have e : b = 45 := by simpa using e
      rw [e] at h3; exact absurd h3 (by decide)
    · intro h5; exact absurd h5 h
theorem itoa_0 {z : Int} : itoa z = [48] ↔ z = 0 := by
  constructor
  · intro h
    have h2 := trimPrefix_itoa z
    rw [h] at h2
    have h3 := congrArg dval h2
    rw [dval_dd] at h3
    have h4 : dval (trimPrefix [48] [45]) = 0 := by decide
    rw [h4] at h3; omega
  · rintro rfl; exact itoa_zero
theorem itoa_len300 {z : Int} (h : okN z) : (itoa z).length ≤ 301 := by
  have h2 := dd300.2 h
  unfold itoa
  split
  · rw [List.length_cons]; omega
  · rename_i hz; rw [show z.toNat = z.natAbs by omega]; omega
theorem opposite_gives (z : Int) (hz : okN z) : Gives Tryz.prog 116 [str (itoa z)] (str (itoa (-z))) := by
  intro W
  refine calls_enter Tryz.func116 rfl rfl rfl ?_
  refine zA ?_
  refine zB ?_
  refine wl_pure Tryz.hT rfl rfl rfl ?_
  refine wl_nil ?_
  refine zE ?_
  iterate 2 refine zA ?_
  refine zB ?_
  iterate 2 refine wl_pure Tryz.hT rfl rfl rfl ?_
  by_cases h0 : z = 0
  · refine wl_upd 6 (.bool true) rfl (congrArg Value.bool ((strEqB _ [48]).trans (decide_eq_true (itoa_0.2 h0)))) ?_
    refine wl_nil ?_
    refine zE ?_
    refine zR rfl ?_
    refine zA ?_
    refine zB ?_
    iterate 2 refine wl_pure Tryz.hT rfl rfl rfl ?_
    refine wl_nil ?_
    refine zE ?_
    refine zO ?_
    refine zP ?_
    exact ne_ret1 Tryz.hT rfl (.tmp rfl) () (by rw [h0]; rfl) trivial fun W _ => NewBx.nil _ _
  · refine wl_upd 6 (.bool false) rfl (congrArg Value.bool ((strEqB _ [48]).trans (decide_eq_false fun e => h0 (itoa_0.1 e)))) ?_
    refine wl_nil ?_
    refine zE ?_
    refine zS rfl ?_
    refine zI ?_
    refine zE ?_
    iterate 2 refine zA ?_
    refine zB ?_
    refine wl_pure Tryz.hT rfl rfl rfl ?_
    by_cases hn : z < 0
    · refine wl_call1 rfl rfl rfl rfl rfl rfl (by kernel_rfl) (fun W _ => (cutPrefix_gives (itoa z) [45] W).cast (by rw [trimPrefix_itoa, hasPrefix_itoa, decide_eq_true hn])) ?_
      iterate 5 refine wl_pure Tryz.hT rfl rfl rfl ?_
      refine wl_nil ?_
      refine zE ?_
      refine zA ?_
      refine zB ?_
      refine wl_pure Tryz.hT rfl rfl rfl ?_
      refine wl_nil ?_
      refine zE ?_
      refine zR rfl ?_
      refine zA ?_
      refine zB ?_
      iterate 2 refine wl_pure Tryz.hT rfl rfl rfl ?_
      refine wl_nil ?_
      refine zE ?_
      refine zO ?_
      refine zP ?_
      exact ne_ret1 Tryz.hT rfl (.tmp rfl) () (by rw [itoa, if_neg (by omega), show (-z).toNat = z.natAbs by omega]) trivial fun W _ => NewBx.nil _ _
    · refine wl_call1 rfl rfl rfl rfl rfl rfl (by kernel_rfl) (fun W _ => (cutPrefix_gives (itoa z) [45] W).cast (by rw [trimPrefix_itoa, hasPrefix_itoa, decide_eq_false hn])) ?_
      iterate 5 refine wl_pure Tryz.hT rfl rfl rfl ?_
      refine wl_nil ?_
      refine zE ?_
      refine zA ?_
      refine zB ?_
      refine wl_pure Tryz.hT rfl rfl rfl ?_
      refine wl_nil ?_
      refine zE ?_
      refine zS rfl ?_
      refine zI ?_
      refine zE ?_
      refine zA ?_
      refine zB ?_
      refine wl_pure Tryz.hT rfl rfl rfl ?_
      refine wl_strAdd rfl rfl rfl rfl rfl (by decide) (Nat.le_trans (itoa_len300 hz) (by decide)) ?_
      refine wl_pure Tryz.hT rfl rfl rfl ?_
      refine wl_nil ?_
      refine zE ?_
      refine zO ?_
      exact ne_ret1 Tryz.hT rfl (.tmp rfl) () (by
        rw [show itoa (-z) = 45 :: decDigits (-z).natAbs by rw [itoa, if_pos (by omega)], Int.natAbs_neg]
        rw [show itoa z = decDigits z.natAbs by rw [itoa, if_neg hn, show z.toNat = z.natAbs by omega]]; rfl) trivial fun W _ => NewBx.nil _ _
theorem okN_neg {z : Int} (h : okN z) : okN (-z) := by unfold okN; rw [Int.natAbs_neg]; exact h
set_option maxHeartbeats 8000000 in
theorem ratNumber_gives (z d : Int) (hd : d ≠ 0) (hz : okN z) (hd2 : okN d) (W : World) (ht : TabP W) :
    CallsR Tryz.prog 62 #[str (itoa z), str (itoa d)] W (fun _ : Unit => .tuple #[str (numS (mkRat (if d < 0 then -z else z) d.natAbs)), .int .i64 0]) (fun _ => True) (fun _ => []) := by
  refine calls_enter (args := [str (itoa z), str (itoa d)]) Tryz.func62 rfl rfl rfl ?_
  refine zA ?_
  refine zB ?_
  iterate 2 refine wl_pure Tryz.hT rfl rfl rfl ?_
  refine wl_nil ?_
  refine zE ?_
  iterate 2 refine zA ?_
  refine zB ?_
  refine wl_pure Tryz.hT rfl rfl rfl ?_
  refine wl_call1 rfl rfl rfl rfl rfl rfl (by kernel_rfl) (fun W _ => (prefix_gives (itoa d) [45] W).cast (by rw [hasPrefix_itoa])) ?_
  refine wl_nil ?_
  refine ne_then ?_
  refine wc_cutS (X := Unit) (fun _ => [(0, str (itoa (if d < 0 then -z else z))), (1, str (decDigits d.natAbs)), (4, str []), (5, .int .i64 0)]) (fun _ => []) (fun _ => True) ?_ ?_
  · refine wc_cond rfl (fun hc => ?_) (fun hc => ?_)
    · have hc := of_decide_eq_true hc
      refine zB ?_
      refine wl_pure Tryz.hT rfl rfl rfl ?_
      refine wl_call1 rfl rfl rfl rfl rfl rfl (by kernel_rfl) (fun W _ => opposite_gives z hz W) ?_
      refine wl_pure Tryz.hT rfl rfl rfl ?_
      refine wl_call1 rfl rfl rfl rfl rfl rfl (by kernel_rfl) (fun W _ => opposite_gives d hd2 W) ?_
      iterate 2 refine wl_pure Tryz.hT rfl rfl rfl ?_
      refine wl_nil ?_
      rw [if_pos hc]
      exact ne_cut () trivial ⟨rfl, by rw [show itoa (-d) = decDigits d.natAbs by rw [itoa, if_neg (by omega), show (-d).toNat = d.natAbs by omega]]; rfl, rfl, rfl, trivial⟩ [] rfl
    · have hc := of_decide_eq_false hc
      refine zI ?_
      rw [if_neg hc]
      exact ne_cut () trivial ⟨rfl, by rw [show decDigits d.natAbs = itoa d by rw [itoa, if_neg hc, show d.toNat = d.natAbs by omega]]; rfl, rfl, rfl, trivial⟩ [] rfl
  · intro _ _
    obtain ⟨x, hx⟩ : ∃ x, (if d < 0 then -z else z) = x := ⟨_, rfl⟩
    obtain ⟨e, he⟩ : ∃ e, d.natAbs = e := ⟨_, rfl⟩
    have hxo : okN x := by rw [← hx]; split; exact okN_neg hz; exact hz
    have heo : e < ten300 := by rw [← he]; exact hd2
    rw [hx, he]
    have he0 : e ≠ 0 := by omega
    obtain ⟨g, hg⟩ : ∃ g, Nat.gcd x.natAbs e = g := ⟨_, rfl⟩
    have hg0 : 0 < g := by rw [← hg]; exact Nat.gcd_pos_of_pos_right _ (by omega)
    obtain ⟨k, hk⟩ : ∃ k, x = (g : Int) * k := Int.natAbs_dvd_natAbs.1 (by rw [Int.natAbs_natCast, ← hg]; exact Nat.gcd_dvd_left ..)
    obtain ⟨m, hm⟩ : ∃ m, e = g * m := by rw [← hg]; exact Nat.gcd_dvd_right ..
    have hge : g ≤ e := by rw [hm]; exact Nat.le_mul_of_pos_right _ (Nat.pos_of_ne_zero fun h => he0 (by rw [hm, h, Nat.mul_zero]))
    have hgo : okN (g : Int) := by unfold okN; rw [Int.natAbs_natCast]; omega
    have hkx : k.natAbs ≤ x.natAbs := by rw [hk, Int.natAbs_mul]; exact Nat.le_mul_of_pos_left _ (by omega)
    have hme : m ≤ e := by rw [hm]; exact Nat.le_mul_of_pos_left _ hg0
    have hko : okN k := Nat.lt_of_le_of_lt hkx hxo
    have hmo : m < ten300 := by omega
    have hq1 : x / (g : Int) = k := by rw [hk]; exact Int.mul_ediv_cancel_left _ (by omega)
    have hq2 : e / g = m := by rw [hm]; exact Nat.mul_div_cancel_left _ hg0
    have hone : m = 1 → numS (mkRat x e) = itoa k := fun h => by rw [numS_one he0 (by rw [hg, hq2, h]), hg, hq1]
    have htwo : m ≠ 1 → numS (mkRat x e) = itoa k ++ [47] ++ decDigits m := fun h => by rw [numS_two he0 (by rw [hg, hq2]; exact h), hg, hq1, hq2, itoa_eq_dd']
    refine wc_seq ?_
    refine zB ?_
    iterate 2 refine wl_pure Tryz.hT rfl rfl rfl ?_
    refine wl_call1 rfl rfl rfl rfl rfl rfl (by kernel_rfl) (fun W hp => (gcdS_gives x e hxo heo W (ht.hp hp)).cast (by rw [hg])) ?_
    iterate 5 refine wl_pure Tryz.hT rfl rfl rfl ?_
    refine wl_nil ?_
    refine zE ?_
    iterate 2 refine zA ?_
    refine zB ?_
    iterate 2 refine wl_pure Tryz.hT rfl rfl rfl ?_
    refine wl_nil ?_
    refine zE ?_
    refine zS rfl ?_
    refine zI ?_
    refine zE ?_
    iterate 2 refine zA ?_
    refine zB ?_
    iterate 2 refine wl_pure Tryz.hT rfl rfl rfl ?_
    refine wl_upd 24 (.bool (decide (g ≠ 1))) rfl (congrArg Value.bool (by show (!_) = _; rw [strEqB, decide_not]; exact congrArg not (decide_eq_decide.2 ⟨fun h => by have := congrArg dval h; rw [dval_dd] at this; exact this, fun h => by rw [h, dd_one]⟩))) ?_
    refine wl_nil ?_
    refine ne_then ?_
    refine wc_cutS (X := Unit) (fun _ => [(0, str (itoa k)), (1, str (decDigits m)), (4, str []), (5, .int .i64 0)]) (fun _ => []) (fun _ => True) ?_ ?_
    · refine wc_cond rfl (fun hc => ?_) (fun hc => ?_)
      · refine zA ?_
        refine zB ?_
        iterate 2 refine wl_pure Tryz.hT rfl rfl rfl ?_
        refine wl_call1 rfl rfl rfl rfl rfl rfl (by kernel_rfl) (fun W hp => by have h := idiv_gives (g : Int) k (by omega) (by rw [← hk]; exact hxo) hgo W (ht.hp hp); rw [← hk, itoa_eq_dd'] at h; exact h) ?_
        iterate 5 refine wl_pure Tryz.hT rfl rfl rfl ?_
        refine wl_nil ?_
        refine zE ?_
        refine zB ?_
        iterate 2 refine wl_pure Tryz.hT rfl rfl rfl ?_
        refine wl_call1 rfl rfl rfl rfl rfl rfl (by kernel_rfl) (fun W hp => by have h := idiv_gives (g : Int) (m : Nat) (by omega) (by rw [← Int.natCast_mul, ← hm]; unfold okN; rw [Int.natAbs_natCast]; exact heo) hgo W (ht.hp hp); rw [← Int.natCast_mul, ← hm, itoa_eq_dd', itoa_eq_dd', itoa_eq_dd'] at h; exact h) ?_
        iterate 5 refine wl_pure Tryz.hT rfl rfl rfl ?_
        refine wl_nil ?_
        exact ne_cut () trivial ⟨rfl, rfl, rfl, rfl, trivial⟩ [] rfl
      · have hc := of_decide_eq_false hc
        have h1 : g = 1 := Decidable.byContradiction hc
        have hkx : k = x := by rw [hk, h1]; omega
        have hme : m = e := by rw [hm, h1]; omega
        refine zI ?_
        rw [hkx, hme]
        exact ne_cut () trivial ⟨rfl, rfl, rfl, rfl, trivial⟩ [] rfl
    · intro _ _
      iterate 2 refine zA ?_
      refine zB ?_
      iterate 2 refine wl_pure Tryz.hT rfl rfl rfl ?_
      by_cases h1 : m = 1
      · refine wl_upd 40 (.bool true) rfl (congrArg Value.bool ((strEqB _ [49]).trans (decide_eq_true (by rw [h1, dd_one])))) ?_
        refine wl_nil ?_
        refine zE ?_
        refine zR rfl ?_
        refine zA ?_
        refine zB ?_
        iterate 3 refine wl_pure Tryz.hT rfl rfl rfl ?_
        refine wl_nil ?_
        refine zE ?_
        refine zO ?_
        refine zP ?_
        exact ne_ret2 Tryz.hT rfl (.tmp rfl) (.tmp rfl) () (by rw [hone h1]) trivial fun W _ => NewBx.nil _ _
      · refine wl_upd 40 (.bool false) rfl (congrArg Value.bool ((strEqB _ [49]).trans (decide_eq_false (fun e => h1 (by have := congrArg dval e; rw [dval_dd] at this; exact this))))) ?_
        refine wl_nil ?_
        refine zE ?_
        refine zS rfl ?_
        refine zI ?_
        refine zE ?_
        refine zA ?_
        refine zB ?_
        refine wl_pure Tryz.hT rfl rfl rfl ?_
        refine wl_strAdd rfl rfl rfl rfl rfl (Nat.le_trans (itoa_len300 hko) (by decide)) (by decide) ?_
        refine wl_pure Tryz.hT rfl rfl rfl ?_
        refine wl_strAdd rfl rfl rfl rfl rfl (by have := itoa_len300 hko; rw [List.length_append]; show _ + 1 ≤ _; omega) (Nat.le_trans (dd300.2 hmo) (by decide)) ?_
        iterate 2 refine wl_pure Tryz.hT rfl rfl rfl ?_
        refine wl_nil ?_
        refine zE ?_
        refine zO ?_
        exact ne_ret2 Tryz.hT rfl (.tmp rfl) (.tmp rfl) () (by rw [htwo h1]) trivial fun W _ => NewBx.nil _ _
end Go.Proofs.YteaiopkopifijaaGreatDoor
namespace Go.Proofs.YteaiopkopifijaaGreatDoor
open Go Go.RowKit Go.Am Go.Lib
set_option maxRecDepth 10000
-- BOXES 4
theorem mul_8 {x y : Int} (hx : x.natAbs < 100000000) (hy : y.natAbs < 100000000) : (x * y).natAbs < 10000000000000000 := by
  rw [Int.natAbs_mul]
  exact Nat.lt_of_le_of_lt (Nat.mul_le_mul (Nat.le_of_lt_succ (Nat.lt_succ_of_lt hx)) (Nat.le_of_lt_succ (Nat.lt_succ_of_lt hy)) |> fun h => Nat.le_trans (Nat.mul_le_mul (show x.natAbs ≤ 99999999 by omega) (show y.natAbs ≤ 99999999 by omega)) (Nat.le_refl _)) (by decide)
theorem w64_mul8 {x y : Int} (hx : x.natAbs < 100000000) (hy : y.natAbs < 100000000) : w64 (x * y) = x * y := by
  have := mul_8 hx hy
  exact w64_id (by omega) (by omega)
theorem addC_gives (z d z' d' : Int) (h1 : z.natAbs < 100000000) (h2 : d.natAbs < 100000000) (h3 : z'.natAbs < 100000000) (h4 : d'.natAbs < 100000000) : Gives Tryz.prog 189 [natA z d, natA z' d'] (natA (z * d' + z' * d) (d * d')) := by
  intro W
  have a1 := mul_8 h1 h4
  have a2 := mul_8 h3 h2
  refine calls_enter Tryz.func189 rfl rfl rfl ?_
  refine zA ?_
  refine zB ?_
  (refine wl_box rfl rfl rfl rfl ?_; intro)
  (refine wl_box rfl rfl rfl rfl ?_; intro)
  (refine wl_allocZ Tryz.hZ rfl rfl rfl rfl ?_; intro)
  refine wl_nil ?_
  refine zE ?_
  refine zA ?_
  refine zB ?_
  refine wl_pure Tryz.hT rfl rfl rfl ?_
  refine wl_loadBx 0 Tryz.hT rfl rfl rfl rfl rfl rfl rfl rfl ?_
  refine wl_pure Tryz.hT rfl rfl rfl ?_
  refine wl_loadBx 1 Tryz.hT rfl rfl rfl rfl rfl rfl rfl rfl ?_
  refine wl_pure Tryz.hT rfl rfl rfl ?_
  refine wl_upd 9 (.int .i64 (z * d')) rfl (congrArg (Value.int .i64) (w64_mul8 h1 h4)) ?_
  refine wl_pure Tryz.hT rfl rfl rfl ?_
  refine wl_loadBx 1 Tryz.hT rfl rfl rfl rfl rfl rfl rfl rfl ?_
  refine wl_pure Tryz.hT rfl rfl rfl ?_
  refine wl_loadBx 0 Tryz.hT rfl rfl rfl rfl rfl rfl rfl rfl ?_
  refine wl_pure Tryz.hT rfl rfl rfl ?_
  refine wl_upd 14 (.int .i64 (z' * d)) rfl (congrArg (Value.int .i64) (w64_mul8 h3 h2)) ?_
  refine wl_pure Tryz.hT rfl rfl rfl ?_
  refine wl_upd 15 (.int .i64 (z * d' + z' * d)) rfl (congrArg (Value.int .i64) (w64_id (by omega) (by omega))) ?_
  refine wl_pure Tryz.hT rfl rfl rfl ?_
  refine wl_loadBx 0 Tryz.hT rfl rfl rfl rfl rfl rfl rfl rfl ?_
  refine wl_pure Tryz.hT rfl rfl rfl ?_
  refine wl_loadBx 1 Tryz.hT rfl rfl rfl rfl rfl rfl rfl rfl ?_
  refine wl_pure Tryz.hT rfl rfl rfl ?_
  refine wl_upd 20 (.int .i64 (d * d')) rfl (congrArg (Value.int .i64) (w64_mul8 h2 h4)) ?_
  refine wl_buildZ Tryz.hZ Tryz.hT rfl rfl rfl rfl rfl rfl rfl rfl ?_
  refine wl_storeBx 2 Tryz.hT rfl rfl rfl rfl rfl rfl rfl rfl rfl rfl rfl ?_
  refine wl_nil ?_
  refine zE ?_
  refine zO ?_
  exact ne_ret1 Tryz.hT rfl (.cell 2 rfl rfl rfl rfl rfl) () rfl trivial fun W _ => NewBx.nil _ _
theorem subC_gives (z d z' d' : Int) (h1 : z.natAbs < 100000000) (h2 : d.natAbs < 100000000) (h3 : z'.natAbs < 100000000) (h4 : d'.natAbs < 100000000) : Gives Tryz.prog 55 [natA z d, natA z' d'] (natA (z * d' - z' * d) (d * d')) := by
  intro W
  have a1 := mul_8 h1 h4
  have a2 := mul_8 h3 h2
  refine calls_enter Tryz.func55 rfl rfl rfl ?_
  refine zA ?_
  refine zB ?_
  (refine wl_box rfl rfl rfl rfl ?_; intro)
  (refine wl_box rfl rfl rfl rfl ?_; intro)
  (refine wl_allocZ Tryz.hZ rfl rfl rfl rfl ?_; intro)
  refine wl_nil ?_
  refine zE ?_
  refine zA ?_
  refine zB ?_
  refine wl_pure Tryz.hT rfl rfl rfl ?_
  refine wl_loadBx 0 Tryz.hT rfl rfl rfl rfl rfl rfl rfl rfl ?_
  refine wl_pure Tryz.hT rfl rfl rfl ?_
  refine wl_loadBx 1 Tryz.hT rfl rfl rfl rfl rfl rfl rfl rfl ?_
  refine wl_pure Tryz.hT rfl rfl rfl ?_
  refine wl_upd 9 (.int .i64 (z * d')) rfl (congrArg (Value.int .i64) (w64_mul8 h1 h4)) ?_
  refine wl_pure Tryz.hT rfl rfl rfl ?_
  refine wl_loadBx 1 Tryz.hT rfl rfl rfl rfl rfl rfl rfl rfl ?_
  refine wl_pure Tryz.hT rfl rfl rfl ?_
  refine wl_loadBx 0 Tryz.hT rfl rfl rfl rfl rfl rfl rfl rfl ?_
  refine wl_pure Tryz.hT rfl rfl rfl ?_
  refine wl_upd 14 (.int .i64 (z' * d)) rfl (congrArg (Value.int .i64) (w64_mul8 h3 h2)) ?_
  refine wl_pure Tryz.hT rfl rfl rfl ?_
  refine wl_upd 15 (.int .i64 (z * d' - z' * d)) rfl (congrArg (Value.int .i64) (w64_id (by omega) (by omega))) ?_
  refine wl_pure Tryz.hT rfl rfl rfl ?_
  refine wl_loadBx 0 Tryz.hT rfl rfl rfl rfl rfl rfl rfl rfl ?_
  refine wl_pure Tryz.hT rfl rfl rfl ?_
  refine wl_loadBx 1 Tryz.hT rfl rfl rfl rfl rfl rfl rfl rfl ?_
  refine wl_pure Tryz.hT rfl rfl rfl ?_
  refine wl_upd 20 (.int .i64 (d * d')) rfl (congrArg (Value.int .i64) (w64_mul8 h2 h4)) ?_
  refine wl_buildZ Tryz.hZ Tryz.hT rfl rfl rfl rfl rfl rfl rfl rfl ?_
  refine wl_storeBx 2 Tryz.hT rfl rfl rfl rfl rfl rfl rfl rfl rfl rfl rfl ?_
  refine wl_nil ?_
  refine zE ?_
  refine zO ?_
  exact ne_ret1 Tryz.hT rfl (.cell 2 rfl rfl rfl rfl rfl) () rfl trivial fun W _ => NewBx.nil _ _
theorem mulC_gives (z d z' d' : Int) (h1 : z.natAbs < 100000000) (h2 : d.natAbs < 100000000) (h3 : z'.natAbs < 100000000) (h4 : d'.natAbs < 100000000) : Gives Tryz.prog 59 [natA z d, natA z' d'] (natA (z * z') (d * d')) := by
  intro W
  refine calls_enter Tryz.func59 rfl rfl rfl ?_
  refine zA ?_
  refine zB ?_
  (refine wl_box rfl rfl rfl rfl ?_; intro)
  (refine wl_box rfl rfl rfl rfl ?_; intro)
  (refine wl_allocZ Tryz.hZ rfl rfl rfl rfl ?_; intro)
  refine wl_nil ?_
  refine zE ?_
  refine zA ?_
  refine zB ?_
  refine wl_pure Tryz.hT rfl rfl rfl ?_
  refine wl_loadBx 0 Tryz.hT rfl rfl rfl rfl rfl rfl rfl rfl ?_
  refine wl_pure Tryz.hT rfl rfl rfl ?_
  refine wl_loadBx 1 Tryz.hT rfl rfl rfl rfl rfl rfl rfl rfl ?_
  refine wl_pure Tryz.hT rfl rfl rfl ?_
  refine wl_upd 9 (.int .i64 (z * z')) rfl (congrArg (Value.int .i64) (w64_mul8 h1 h3)) ?_
  refine wl_pure Tryz.hT rfl rfl rfl ?_
  refine wl_loadBx 0 Tryz.hT rfl rfl rfl rfl rfl rfl rfl rfl ?_
  refine wl_pure Tryz.hT rfl rfl rfl ?_
  refine wl_loadBx 1 Tryz.hT rfl rfl rfl rfl rfl rfl rfl rfl ?_
  refine wl_pure Tryz.hT rfl rfl rfl ?_
  refine wl_upd 14 (.int .i64 (d * d')) rfl (congrArg (Value.int .i64) (w64_mul8 h2 h4)) ?_
  refine wl_buildZ Tryz.hZ Tryz.hT rfl rfl rfl rfl rfl rfl rfl rfl ?_
  refine wl_storeBx 2 Tryz.hT rfl rfl rfl rfl rfl rfl rfl rfl rfl rfl rfl ?_
  refine wl_nil ?_
  refine zE ?_
  refine zO ?_
  exact ne_ret1 Tryz.hT rfl (.cell 2 rfl rfl rfl rfl rfl) () rfl trivial fun W _ => NewBx.nil _ _
theorem divC_gives (z d z' d' : Int) (h1 : z.natAbs < 100000000) (h2 : d.natAbs < 100000000) (h3 : z'.natAbs < 100000000) (h4 : d'.natAbs < 100000000) : Gives Tryz.prog 191 [natA z d, natA z' d'] (natA (z * d') (d * z')) := by
  intro W
  refine calls_enter Tryz.func191 rfl rfl rfl ?_
  refine zA ?_
  refine zB ?_
  (refine wl_box rfl rfl rfl rfl ?_; intro)
  (refine wl_box rfl rfl rfl rfl ?_; intro)
  (refine wl_allocZ Tryz.hZ rfl rfl rfl rfl ?_; intro)
  refine wl_nil ?_
  refine zE ?_
  refine zA ?_
  refine zB ?_
  refine wl_pure Tryz.hT rfl rfl rfl ?_
  refine wl_loadBx 0 Tryz.hT rfl rfl rfl rfl rfl rfl rfl rfl ?_
  refine wl_pure Tryz.hT rfl rfl rfl ?_
  refine wl_loadBx 1 Tryz.hT rfl rfl rfl rfl rfl rfl rfl rfl ?_
  refine wl_pure Tryz.hT rfl rfl rfl ?_
  refine wl_upd 9 (.int .i64 (z * d')) rfl (congrArg (Value.int .i64) (w64_mul8 h1 h4)) ?_
  refine wl_pure Tryz.hT rfl rfl rfl ?_
  refine wl_loadBx 0 Tryz.hT rfl rfl rfl rfl rfl rfl rfl rfl ?_
  refine wl_pure Tryz.hT rfl rfl rfl ?_
  refine wl_loadBx 1 Tryz.hT rfl rfl rfl rfl rfl rfl rfl rfl ?_
  refine wl_pure Tryz.hT rfl rfl rfl ?_
  refine wl_upd 14 (.int .i64 (d * z')) rfl (congrArg (Value.int .i64) (w64_mul8 h2 h3)) ?_
  refine wl_buildZ Tryz.hZ Tryz.hT rfl rfl rfl rfl rfl rfl rfl rfl ?_
  refine wl_storeBx 2 Tryz.hT rfl rfl rfl rfl rfl rfl rfl rfl rfl rfl rfl ?_
  refine wl_nil ?_
  refine zE ?_
  refine zO ?_
  exact ne_ret1 Tryz.hT rfl (.cell 2 rfl rfl rfl rfl rfl) () rfl trivial fun W _ => NewBx.nil _ _
/-- A number whose parts are short. -/
def smQ (p : Rat) : Prop := p.num.natAbs < 100000000 ∧ p.den < 100000000
instance (p : Rat) : Decidable (smQ p) := by unfold smQ; infer_instance
theorem natOf_num (p : Rat) : natOfV (numS p) = if smQ p then .tuple #[natA p.num (p.den : Nat), .bool true] else natBad := by
  have hf : frm (numS p) = some (p.num, p.den) := frm_parS _ p.den_pos
  by_cases h : smQ p
  · have e : natOf (numS p) = some (p.num, p.den) := natOf_iff.2 ⟨hf, h.1, h.2, p.reduced⟩
    rw [if_pos h, natOfV, e]
  · have e : natOf (numS p) = none := by
      cases hn : natOf (numS p) with
      | none => rfl
      | some x =>
        obtain ⟨x1, x2⟩ := x
        obtain ⟨e1, e2, e3, _⟩ := natOf_iff.1 hn
        rw [hf] at e1
        injection e1 with e1
        injection e1 with ea eb
        subst ea; subst eb
        exact absurd ⟨e2, e3⟩ h
    rw [if_neg h, natOfV, e]
set_option maxHeartbeats 8000000 in
/-- quick: a short way for short numbers. -/
theorem quick_gives (p q r : Rat) (z d : Int) (g : Nat) (hE : entersB Tryz.prog g = true) (hlp : (numS p).length < 4611686018427387904) (hlq : (numS q).length < 4611686018427387904)
    (hg : smQ p → smQ q → Gives Tryz.prog g [natA p.num (p.den : Nat), natA q.num (q.den : Nat)] (natA z d) ∧ d ≠ 0 ∧ z.natAbs < 1000000000000000000 ∧ d.natAbs < 1000000000000000000 ∧ mkRat (if d < 0 then -z else z) d.natAbs = r) (W : World) (ht : TabP W) :
    CallsR Tryz.prog 54 #[str (numS p), str (numS q), .func (.func g) #[] #[]] W (fun _ : Unit => if smQ p ∧ smQ q then .tuple #[str (numS r), .bool true] else .tuple #[str [], .bool false]) (fun _ => True) (fun _ => []) := by
  refine calls_enter (args := [str (numS p), str (numS q), .func (.func g) #[] #[]]) Tryz.func54 rfl rfl rfl ?_
  refine zA ?_
  refine zB ?_
  iterate 2 refine wl_pure Tryz.hT rfl rfl rfl ?_
  refine wl_nil ?_
  refine zE ?_
  refine zA ?_
  refine zB ?_
  refine wl_pure Tryz.hT rfl rfl rfl ?_
  by_cases hp : smQ p
  · refine wl_call1 rfl rfl rfl rfl rfl rfl (by kernel_rfl) (fun W _ => (nativeOf_gives (numS p) hlp W).cast ((natOf_num p).trans (if_pos hp))) ?_
    iterate 3 refine wl_pure Tryz.hT rfl rfl rfl ?_
    (refine wl_allocZ Tryz.hZ rfl rfl rfl rfl ?_; intro)
    refine wl_storeBx 0 Tryz.hT rfl rfl rfl rfl rfl rfl rfl rfl rfl rfl rfl ?_
    refine wl_pure Tryz.hT rfl rfl rfl ?_
    refine wl_nil ?_
    rename_i b8
    refine zE ?_
    iterate 2 refine zA ?_
    refine zB ?_
    iterate 2 refine wl_pure Tryz.hT rfl rfl rfl ?_
    refine wl_nil ?_
    refine zE ?_
    refine zS rfl ?_
    refine zI ?_
    refine zE ?_
    refine zA ?_
    refine zB ?_
    refine wl_pure Tryz.hT rfl rfl rfl ?_
    by_cases hq : smQ q
    · obtain ⟨hg1, hd, hz1, hd1, hr⟩ := hg hp hq
      refine wl_call1 rfl rfl rfl rfl rfl rfl (by kernel_rfl) (fun W _ => (nativeOf_gives (numS q) hlq W).cast ((natOf_num q).trans (if_pos hq))) ?_
      iterate 3 refine wl_pure Tryz.hT rfl rfl rfl ?_
      (refine wl_allocZ Tryz.hZ rfl rfl rfl rfl ?_; intro)
      refine wl_storeBx 1 Tryz.hT rfl rfl rfl rfl rfl rfl rfl rfl rfl rfl rfl ?_
      refine wl_pure Tryz.hT rfl rfl rfl ?_
      refine wl_nil ?_
      rename_i b10
      refine zE ?_
      iterate 2 refine zA ?_
      refine zB ?_
      iterate 2 refine wl_pure Tryz.hT rfl rfl rfl ?_
      refine wl_nil ?_
      refine zE ?_
      refine zS rfl ?_
      refine zI ?_
      refine zE ?_
      refine zA ?_
      refine zB ?_
      refine wl_pure Tryz.hT rfl rfl rfl ?_
      refine wl_loadBx 0 Tryz.hT rfl rfl rfl rfl rfl rfl rfl rfl ?_
      refine wl_loadBx 1 Tryz.hT rfl rfl rfl rfl rfl rfl rfl rfl ?_
      refine wl_call1 (capt := []) rfl rfl rfl rfl rfl rfl hE (fun W _ => hg1 W) ?_
      refine wl_call1 rfl rfl rfl rfl rfl rfl (by kernel_rfl) (fun W hp => (number_gives z d hd hz1 hd1 W (ht.hp hp)).cast (by rw [hr])) ?_
      iterate 2 refine wl_pure Tryz.hT rfl rfl rfl ?_
      refine wl_nil ?_
      refine zE ?_
      refine zO ?_
      exact ne_ret2 Tryz.hT rfl (.tmp rfl) (.tmp rfl) () (if_pos ⟨hp, hq⟩).symm trivial fun W _ => NewBx.nil _ _
    · refine wl_call1 rfl rfl rfl rfl rfl rfl (by kernel_rfl) (fun W _ => (nativeOf_gives (numS q) hlq W).cast ((natOf_num q).trans (if_neg hq))) ?_
      iterate 3 refine wl_pure Tryz.hT rfl rfl rfl ?_
      (refine wl_allocZ Tryz.hZ rfl rfl rfl rfl ?_; intro)
      refine wl_storeBx 1 Tryz.hT rfl rfl rfl rfl rfl rfl rfl rfl rfl rfl rfl ?_
      refine wl_pure Tryz.hT rfl rfl rfl ?_
      refine wl_nil ?_
      refine zE ?_
      iterate 2 refine zA ?_
      refine zB ?_
      iterate 2 refine wl_pure Tryz.hT rfl rfl rfl ?_
      refine wl_nil ?_
      refine zE ?_
      refine zR rfl ?_
      refine zA ?_
      refine zB ?_
      iterate 2 refine wl_pure Tryz.hT rfl rfl rfl ?_
      refine wl_nil ?_
      refine zE ?_
      refine zO ?_
      refine zP ?_
      exact ne_ret2 Tryz.hT rfl (.tmp rfl) (.tmp rfl) () (if_neg fun h => hq h.2).symm trivial fun W _ => NewBx.nil _ _
  · refine wl_call1 rfl rfl rfl rfl rfl rfl (by kernel_rfl) (fun W _ => (nativeOf_gives (numS p) hlp W).cast ((natOf_num p).trans (if_neg hp))) ?_
    iterate 3 refine wl_pure Tryz.hT rfl rfl rfl ?_
    (refine wl_allocZ Tryz.hZ rfl rfl rfl rfl ?_; intro)
    refine wl_storeBx 0 Tryz.hT rfl rfl rfl rfl rfl rfl rfl rfl rfl rfl rfl ?_
    refine wl_pure Tryz.hT rfl rfl rfl ?_
    refine wl_nil ?_
    refine zE ?_
    iterate 2 refine zA ?_
    refine zB ?_
    iterate 2 refine wl_pure Tryz.hT rfl rfl rfl ?_
    refine wl_nil ?_
    refine zE ?_
    refine zR rfl ?_
    refine zA ?_
    refine zB ?_
    iterate 2 refine wl_pure Tryz.hT rfl rfl rfl ?_
    refine wl_nil ?_
    refine zE ?_
    refine zO ?_
    refine zP ?_
    exact ne_ret2 Tryz.hT rfl (.tmp rfl) (.tmp rfl) () (if_neg fun h => hp h.1).symm trivial fun W _ => NewBx.nil _ _
end Go.Proofs.YteaiopkopifijaaGreatDoor
namespace Go.Proofs.YteaiopkopifijaaGreatDoor
open Go Go.RowKit Go.Am Go.Lib
set_option maxRecDepth 10000
-- BOXES 4
abbrev prtV (q : Rat) : Value := parA (itoa q.num) (itoa (q.den : Nat))
/-- A number whose parts have at most 300 digits. -/
def okQ (q : Rat) : Prop := okN q.num ∧ okN (q.den : Nat)
theorem resV_N {z : Int} (h : okN z) : resV z = .tuple #[str (itoa z), .int .i64 0] := if_pos h
theorem rd_num {q : Rat} (h : okQ q) : rdV (numS q) = .tuple #[prtV q, .int .i64 0] := by
  have hd : q.den < ten300 := by have := h.2; unfold okN at this; rwa [Int.natAbs_natCast] at this
  have hf : frm (numS q) = some (q.num, q.den) := frm_parS q.num q.den_pos
  rw [rd_ok hf ⟨h.1, hd⟩ q.reduced, ← itoa_eq_dd']
theorem numS_len {q : Rat} (h : okQ q) : (numS q).length ≤ 1000 := by
  have h1 := itoa_len300 h.1
  have h2 := itoa_len300 h.2
  rw [itoa_eq_dd'] at h2
  unfold numS parS
  split
  · omega
  · rw [List.length_append, List.length_cons]; omega
set_option maxHeartbeats 4000000 in
theorem crossed_gives (p q : Rat) (hp : okQ p) (hq : okQ q) (h1 : okN (p.num * (q.den : Nat))) (h2 : okN (q.num * (p.den : Nat))) (W : World) (ht : TabP W) :
    CallsR Tryz.prog 66 #[prtV p, prtV q] W (fun _ : Unit => .tuple #[str (itoa (p.num * (q.den : Nat))), str (itoa (q.num * (p.den : Nat))), .int .i64 0]) (fun _ => True) (fun _ => []) := by
  refine calls_enter (args := [prtV p, prtV q]) Tryz.func66 rfl rfl rfl ?_
  repeat (first | refine zA ?_ | refine zB ?_ | refine zC ?_ | refine zD ?_ | refine zE ?_ | refine zF ?_ | refine zG ?_ | refine zH ?_ | refine zI ?_ | refine zJ ?_ | refine zK ?_ | refine zL ?_ | refine zM rfl ?_ | refine zN ?_ | refine zO ?_ | refine zP ?_ | refine zQ ?_ | refine zR rfl ?_ | refine zS rfl ?_ | refine zT Tryz.mixed (by kernel_rfl) ?_)
  (refine wl_box rfl rfl rfl rfl ?_; intro)
  (refine wl_box rfl rfl rfl rfl ?_; intro)
  iterate 3 refine wl_pure Tryz.hT rfl rfl rfl ?_
  refine wl_nil ?_
  repeat (first | refine zA ?_ | refine zB ?_ | refine zC ?_ | refine zD ?_ | refine zE ?_ | refine zF ?_ | refine zG ?_ | refine zH ?_ | refine zI ?_ | refine zJ ?_ | refine zK ?_ | refine zL ?_ | refine zM rfl ?_ | refine zN ?_ | refine zO ?_ | refine zP ?_ | refine zQ ?_ | refine zR rfl ?_ | refine zS rfl ?_ | refine zT Tryz.mixed (by kernel_rfl) ?_)
  refine wl_pure Tryz.hT rfl rfl rfl ?_
  (first | refine wl_loadBx 0 Tryz.hT rfl rfl rfl rfl rfl rfl rfl rfl ?_ | refine wl_loadBx 1 Tryz.hT rfl rfl rfl rfl rfl rfl rfl rfl ?_ | refine wl_loadBx 2 Tryz.hT rfl rfl rfl rfl rfl rfl rfl rfl ?_ | refine wl_loadBx 3 Tryz.hT rfl rfl rfl rfl rfl rfl rfl rfl ?_)
  refine wl_pure Tryz.hT rfl rfl rfl ?_
  (first | refine wl_loadBx 0 Tryz.hT rfl rfl rfl rfl rfl rfl rfl rfl ?_ | refine wl_loadBx 1 Tryz.hT rfl rfl rfl rfl rfl rfl rfl rfl ?_ | refine wl_loadBx 2 Tryz.hT rfl rfl rfl rfl rfl rfl rfl rfl ?_ | refine wl_loadBx 3 Tryz.hT rfl rfl rfl rfl rfl rfl rfl rfl ?_)
  refine wl_call1 rfl rfl rfl rfl rfl rfl (by kernel_rfl) (fun W h => (imul_gives p.num (q.den : Nat) hp.1 hq.2 W (ht.hp h)).cast (resV_N h1)) ?_
  iterate 5 refine wl_pure Tryz.hT rfl rfl rfl ?_
  refine wl_nil ?_
  repeat (first | refine zA ?_ | refine zB ?_ | refine zC ?_ | refine zD ?_ | refine zE ?_ | refine zF ?_ | refine zG ?_ | refine zH ?_ | refine zI ?_ | refine zJ ?_ | refine zK ?_ | refine zL ?_ | refine zM rfl ?_ | refine zN ?_ | refine zO ?_ | refine zP ?_ | refine zQ ?_ | refine zR rfl ?_ | refine zS rfl ?_ | refine zT Tryz.mixed (by kernel_rfl) ?_)
  iterate 2 refine wl_pure Tryz.hT rfl rfl rfl ?_
  refine wl_nil ?_
  repeat (first | refine zA ?_ | refine zB ?_ | refine zC ?_ | refine zD ?_ | refine zE ?_ | refine zF ?_ | refine zG ?_ | refine zH ?_ | refine zI ?_ | refine zJ ?_ | refine zK ?_ | refine zL ?_ | refine zM rfl ?_ | refine zN ?_ | refine zO ?_ | refine zP ?_ | refine zQ ?_ | refine zR rfl ?_ | refine zS rfl ?_ | refine zT Tryz.mixed (by kernel_rfl) ?_)
  refine wl_pure Tryz.hT rfl rfl rfl ?_
  (first | refine wl_loadBx 0 Tryz.hT rfl rfl rfl rfl rfl rfl rfl rfl ?_ | refine wl_loadBx 1 Tryz.hT rfl rfl rfl rfl rfl rfl rfl rfl ?_ | refine wl_loadBx 2 Tryz.hT rfl rfl rfl rfl rfl rfl rfl rfl ?_ | refine wl_loadBx 3 Tryz.hT rfl rfl rfl rfl rfl rfl rfl rfl ?_)
  refine wl_pure Tryz.hT rfl rfl rfl ?_
  (first | refine wl_loadBx 0 Tryz.hT rfl rfl rfl rfl rfl rfl rfl rfl ?_ | refine wl_loadBx 1 Tryz.hT rfl rfl rfl rfl rfl rfl rfl rfl ?_ | refine wl_loadBx 2 Tryz.hT rfl rfl rfl rfl rfl rfl rfl rfl ?_ | refine wl_loadBx 3 Tryz.hT rfl rfl rfl rfl rfl rfl rfl rfl ?_)
  refine wl_call1 rfl rfl rfl rfl rfl rfl (by kernel_rfl) (fun W h => (imul_gives q.num (p.den : Nat) hq.1 hp.2 W (ht.hp h)).cast (resV_N h2)) ?_
  iterate 5 refine wl_pure Tryz.hT rfl rfl rfl ?_
  refine wl_nil ?_
  repeat (first | refine zA ?_ | refine zB ?_ | refine zC ?_ | refine zD ?_ | refine zE ?_ | refine zF ?_ | refine zG ?_ | refine zH ?_ | refine zI ?_ | refine zJ ?_ | refine zK ?_ | refine zL ?_ | refine zM rfl ?_ | refine zN ?_ | refine zO ?_ | refine zP ?_ | refine zQ ?_ | refine zR rfl ?_ | refine zS rfl ?_ | refine zT Tryz.mixed (by kernel_rfl) ?_)
  iterate 6 refine wl_pure Tryz.hT rfl rfl rfl ?_
  refine wl_nil ?_
  repeat (first | refine zA ?_ | refine zB ?_ | refine zC ?_ | refine zD ?_ | refine zE ?_ | refine zF ?_ | refine zG ?_ | refine zH ?_ | refine zI ?_ | refine zJ ?_ | refine zK ?_ | refine zL ?_ | refine zM rfl ?_ | refine zN ?_ | refine zO ?_ | refine zP ?_ | refine zQ ?_ | refine zR rfl ?_ | refine zS rfl ?_ | refine zT Tryz.mixed (by kernel_rfl) ?_)
  exact ne_ret3 Tryz.hT rfl (.tmp rfl) (.tmp rfl) (.tmp rfl) () rfl trivial fun W _ => NewBx.nil _ _
set_option maxHeartbeats 4000000 in
theorem rboth_gives (p q : Rat) (v : List UInt8) (e : Int) (g : Nat) (capt : List Value) (hp : okQ p) (hq : okQ q) (W0 : World) (hv : MaxP W0) (ht : TabP W0) (hE : entersB Tryz.prog g = true)
    (hg : ∀ W, Below W0.heap.size W0 W → CallsR Tryz.prog g ([prtV p, prtV q] ++ capt).toArray W (fun _ : Unit => .tuple #[str v, .int .i64 e]) (fun _ => True) (fun _ => [])) :
    CallsR Tryz.prog 56 #[str (numS p), str (numS q), .func (.func g) #[] capt.toArray] W0 (fun _ : Unit => .tuple #[str v, .int .i64 e]) (fun _ => True) (fun _ => []) := by
  have hlp := numS_len hp
  have hlq := numS_len hq
  refine calls_enter (args := [str (numS p), str (numS q), .func (.func g) #[] capt.toArray]) Tryz.func56 rfl rfl rfl ?_
  repeat (first | refine zA ?_ | refine zB ?_ | refine zC ?_ | refine zD ?_ | refine zE ?_ | refine zF ?_ | refine zG ?_ | refine zH ?_ | refine zI ?_ | refine zJ ?_ | refine zK ?_ | refine zL ?_ | refine zM rfl ?_ | refine zN ?_ | refine zO ?_ | refine zP ?_ | refine zQ ?_ | refine zR rfl ?_ | refine zS rfl ?_ | refine zT Tryz.mixed (by kernel_rfl) ?_)
  iterate 2 refine wl_pure Tryz.hT rfl rfl rfl ?_
  refine wl_nil ?_
  repeat (first | refine zA ?_ | refine zB ?_ | refine zC ?_ | refine zD ?_ | refine zE ?_ | refine zF ?_ | refine zG ?_ | refine zH ?_ | refine zI ?_ | refine zJ ?_ | refine zK ?_ | refine zL ?_ | refine zM rfl ?_ | refine zN ?_ | refine zO ?_ | refine zP ?_ | refine zQ ?_ | refine zR rfl ?_ | refine zS rfl ?_ | refine zT Tryz.mixed (by kernel_rfl) ?_)
  refine wl_pure Tryz.hT rfl rfl rfl ?_
  refine wl_call1 rfl rfl rfl rfl rfl rfl (by kernel_rfl) (fun W h => (rread_gives (numS p) (by omega) W (hv.hp h) (ht.hp h)).cast (rd_num hp)) ?_
  iterate 3 refine wl_pure Tryz.hT rfl rfl rfl ?_
  (refine wl_allocZ Tryz.hZ rfl rfl rfl rfl ?_; intro)
  (first | refine wl_storeBx 0 Tryz.hT rfl rfl rfl rfl rfl rfl rfl rfl rfl rfl rfl ?_ | refine wl_storeBx 1 Tryz.hT rfl rfl rfl rfl rfl rfl rfl rfl rfl rfl rfl ?_ | refine wl_storeBx 2 Tryz.hT rfl rfl rfl rfl rfl rfl rfl rfl rfl rfl rfl ?_ | refine wl_storeBx 3 Tryz.hT rfl rfl rfl rfl rfl rfl rfl rfl rfl rfl rfl ?_)
  refine wl_pure Tryz.hT rfl rfl rfl ?_
  refine wl_nil ?_
  rename_i b8
  repeat (first | refine zA ?_ | refine zB ?_ | refine zC ?_ | refine zD ?_ | refine zE ?_ | refine zF ?_ | refine zG ?_ | refine zH ?_ | refine zI ?_ | refine zJ ?_ | refine zK ?_ | refine zL ?_ | refine zM rfl ?_ | refine zN ?_ | refine zO ?_ | refine zP ?_ | refine zQ ?_ | refine zR rfl ?_ | refine zS rfl ?_ | refine zT Tryz.mixed (by kernel_rfl) ?_)
  iterate 2 refine wl_pure Tryz.hT rfl rfl rfl ?_
  refine wl_nil ?_
  repeat (first | refine zA ?_ | refine zB ?_ | refine zC ?_ | refine zD ?_ | refine zE ?_ | refine zF ?_ | refine zG ?_ | refine zH ?_ | refine zI ?_ | refine zJ ?_ | refine zK ?_ | refine zL ?_ | refine zM rfl ?_ | refine zN ?_ | refine zO ?_ | refine zP ?_ | refine zQ ?_ | refine zR rfl ?_ | refine zS rfl ?_ | refine zT Tryz.mixed (by kernel_rfl) ?_)
  refine wl_pure Tryz.hT rfl rfl rfl ?_
  refine wl_call1 rfl rfl rfl rfl rfl rfl (by kernel_rfl) (fun W h => (rread_gives (numS q) (by omega) W (hv.hp h) (ht.hp h)).cast (rd_num hq)) ?_
  iterate 3 refine wl_pure Tryz.hT rfl rfl rfl ?_
  (refine wl_allocZ Tryz.hZ rfl rfl rfl rfl ?_; intro)
  (first | refine wl_storeBx 0 Tryz.hT rfl rfl rfl rfl rfl rfl rfl rfl rfl rfl rfl ?_ | refine wl_storeBx 1 Tryz.hT rfl rfl rfl rfl rfl rfl rfl rfl rfl rfl rfl ?_ | refine wl_storeBx 2 Tryz.hT rfl rfl rfl rfl rfl rfl rfl rfl rfl rfl rfl ?_ | refine wl_storeBx 3 Tryz.hT rfl rfl rfl rfl rfl rfl rfl rfl rfl rfl rfl ?_)
  refine wl_pure Tryz.hT rfl rfl rfl ?_
  refine wl_nil ?_
  rename_i b10
  repeat (first | refine zA ?_ | refine zB ?_ | refine zC ?_ | refine zD ?_ | refine zE ?_ | refine zF ?_ | refine zG ?_ | refine zH ?_ | refine zI ?_ | refine zJ ?_ | refine zK ?_ | refine zL ?_ | refine zM rfl ?_ | refine zN ?_ | refine zO ?_ | refine zP ?_ | refine zQ ?_ | refine zR rfl ?_ | refine zS rfl ?_ | refine zT Tryz.mixed (by kernel_rfl) ?_)
  iterate 2 refine wl_pure Tryz.hT rfl rfl rfl ?_
  refine wl_nil ?_
  repeat (first | refine zA ?_ | refine zB ?_ | refine zC ?_ | refine zD ?_ | refine zE ?_ | refine zF ?_ | refine zG ?_ | refine zH ?_ | refine zI ?_ | refine zJ ?_ | refine zK ?_ | refine zL ?_ | refine zM rfl ?_ | refine zN ?_ | refine zO ?_ | refine zP ?_ | refine zQ ?_ | refine zR rfl ?_ | refine zS rfl ?_ | refine zT Tryz.mixed (by kernel_rfl) ?_)
  refine wl_pure Tryz.hT rfl rfl rfl ?_
  (first | refine wl_loadBx 0 Tryz.hT rfl rfl rfl rfl rfl rfl rfl rfl ?_ | refine wl_loadBx 1 Tryz.hT rfl rfl rfl rfl rfl rfl rfl rfl ?_ | refine wl_loadBx 2 Tryz.hT rfl rfl rfl rfl rfl rfl rfl rfl ?_ | refine wl_loadBx 3 Tryz.hT rfl rfl rfl rfl rfl rfl rfl rfl ?_)
  (first | refine wl_loadBx 0 Tryz.hT rfl rfl rfl rfl rfl rfl rfl rfl ?_ | refine wl_loadBx 1 Tryz.hT rfl rfl rfl rfl rfl rfl rfl rfl ?_ | refine wl_loadBx 2 Tryz.hT rfl rfl rfl rfl rfl rfl rfl rfl ?_ | refine wl_loadBx 3 Tryz.hT rfl rfl rfl rfl rfl rfl rfl rfl ?_)
  refine wl_call1 (capt := capt) rfl rfl rfl rfl rfl rfl hE (fun W h => hg W h.below) ?_
  iterate 4 refine wl_pure Tryz.hT rfl rfl rfl ?_
  refine wl_nil ?_
  repeat (first | refine zA ?_ | refine zB ?_ | refine zC ?_ | refine zD ?_ | refine zE ?_ | refine zF ?_ | refine zG ?_ | refine zH ?_ | refine zI ?_ | refine zJ ?_ | refine zK ?_ | refine zL ?_ | refine zM rfl ?_ | refine zN ?_ | refine zO ?_ | refine zP ?_ | refine zQ ?_ | refine zR rfl ?_ | refine zS rfl ?_ | refine zT Tryz.mixed (by kernel_rfl) ?_)
  exact ne_ret2 Tryz.hT rfl (.tmp rfl) (.tmp rfl) () rfl trivial fun W _ => NewBx.nil _ _
end Go.Proofs.YteaiopkopifijaaGreatDoor
namespace Go.Proofs.YteaiopkopifijaaGreatDoor
open Go Go.Lib
abbrev nrm (z d : Int) : Rat := mkRat (if d < 0 then -z else z) d.natAbs
theorem nrm_div (z : Int) {d : Int} (hd : d ≠ 0) : nrm z d = Rat.divInt z d := by
  unfold nrm
  cases d with
  | ofNat n =>
    rw [if_neg (by intro h; exact absurd h (by simp))]
    rfl
  | negSucc n =>
    rw [if_pos (Int.negSucc_lt_zero n)]
    show mkRat (-z) (n + 1) = _
    rw [Rat.divInt]
    rw [Rat.normalize_eq_mkRat]
theorem rat_add (p q : Rat) : nrm (p.num * (q.den : Nat) + q.num * (p.den : Nat)) ((p.den : Nat) * (q.den : Nat)) = p + q := by
  have h1 : ((p.den : Nat) : Int) ≠ 0 := by have := p.den_nz; omega
  have h2 : ((q.den : Nat) : Int) ≠ 0 := by have := q.den_nz; omega
  rw [nrm_div _ (Int.mul_ne_zero h1 h2)]
  rw [← Rat.divInt_add_divInt _ _ h1 h2, Rat.num_divInt_den, Rat.num_divInt_den]
theorem rat_sub (p q : Rat) : nrm (p.num * (q.den : Nat) - q.num * (p.den : Nat)) ((p.den : Nat) * (q.den : Nat)) = p - q := by
  have h1 : ((p.den : Nat) : Int) ≠ 0 := by have := p.den_nz; omega
  have h2 : ((q.den : Nat) : Int) ≠ 0 := by have := q.den_nz; omega
  rw [nrm_div _ (Int.mul_ne_zero h1 h2)]
  rw [← Rat.divInt_sub_divInt _ _ h1 h2, Rat.num_divInt_den, Rat.num_divInt_den]
theorem rat_mul (p q : Rat) : nrm (p.num * q.num) ((p.den : Nat) * (q.den : Nat)) = p * q := by
  have h1 : ((p.den : Nat) : Int) ≠ 0 := by have := p.den_nz; omega
  have h2 : ((q.den : Nat) : Int) ≠ 0 := by have := q.den_nz; omega
  rw [nrm_div _ (Int.mul_ne_zero h1 h2)]
  rw [← Rat.divInt_mul_divInt, Rat.num_divInt_den, Rat.num_divInt_den]
theorem rat_div (p q : Rat) (hq : q.num ≠ 0) : nrm (p.num * (q.den : Nat)) ((p.den : Nat) * q.num) = p / q := by
  have h1 : ((p.den : Nat) : Int) ≠ 0 := by have := p.den_nz; omega
  rw [nrm_div _ (Int.mul_ne_zero h1 hq)]
  rw [← Rat.divInt_mul_divInt, Rat.num_divInt_den, Rat.div_def, Rat.inv_def]
/-- How long a number's parts are. -/
def szQ (q : Rat) (k : Nat) : Prop := q.num.natAbs < 10 ^ k ∧ q.den < 10 ^ k
theorem nrm_num (z : Int) {d : Int} (hd : d ≠ 0) {k : Nat} (hz : z.natAbs < 10 ^ k) (hd2 : d.natAbs < 10 ^ k) : szQ (nrm z d) k := by
  have h0 : d.natAbs ≠ 0 := by omega
  have hx : (if d < 0 then -z else z).natAbs = z.natAbs := by split; rw [Int.natAbs_neg]; rfl
  unfold nrm
  rw [mkRat, dif_neg h0, Rat.normalize_eq]
  constructor
  · show ((if d < 0 then -z else z) / _).natAbs < _
    refine Nat.lt_of_le_of_lt ?_ hz
    rw [← hx]
    exact Int.natAbs_ediv_le_natAbs ..
  · exact Nat.lt_of_le_of_lt (Nat.div_le_self ..) hd2
end Go.Proofs.YteaiopkopifijaaGreatDoor
namespace Go.Proofs.YteaiopkopifijaaGreatDoor
open Go Go.RowKit Go.Am Go.Lib
set_option maxRecDepth 10000
-- BOXES 4
theorem combined_gives (h : Nat) (W : World) : CallsR Tryz.prog 57 #[.func (.func h) #[] #[]] W (fun b : Nat => .func (.func 109) #[] #[selfP b]) (fun _ => True) (fun b => [⟨b, 103, [.func (.func h) #[] #[]], true, none⟩]) := by
  refine calls_enter (args := [.func (.func h) #[] #[]]) Tryz.func57 rfl rfl rfl ?_
  refine zA ?_
  refine zB ?_
  refine wl_box rfl rfl rfl rfl ?_; intro b
  refine wl_pure Tryz.hT rfl rfl rfl ?_
  refine wl_nil ?_
  refine zE ?_
  refine zA ?_
  refine zB ?_
  iterate 2 refine wl_pure Tryz.hT rfl rfl rfl ?_
  refine wl_nil ?_
  refine zE ?_
  refine zO ?_
  exact ne_ret1 Tryz.hT rfl (.tmp rfl) b rfl trivial fun W hp => NewBx.of_hp hp
theorem okN_den {p q : Rat} : ((p.den : Nat) : Int) * (q.den : Nat) ≠ 0 := Int.mul_ne_zero (by have := p.den_nz; omega) (by have := q.den_nz; omega)
set_option maxHeartbeats 8000000 in
theorem combC_gives (p q : Rat) (b h : Nat) (z : Int) (hp : okQ p) (hq : okQ q) (h1 : okN (p.num * (q.den : Nat))) (h2 : okN (q.num * (p.den : Nat))) (hz : okN z) (hd : okN ((p.den : Nat) * (q.den : Nat))) (hE : entersB Tryz.prog h = true)
    (hop : ∀ W, TabP W → CallsR Tryz.prog h #[str (itoa (p.num * (q.den : Nat))), str (itoa (q.num * (p.den : Nat)))] W (fun _ : Unit => .tuple #[str (itoa z), .int .i64 0]) (fun _ => True) (fun _ => [])) (W : World) (ht : TabP W) (hrow : RowAt W b 0 [.func (.func h) #[] #[]]) :
    CallsR Tryz.prog 109 #[prtV p, prtV q, selfP b] W (fun _ : Unit => .tuple #[str (numS (nrm z ((p.den : Nat) * (q.den : Nat)))), .int .i64 0]) (fun _ => True) (fun _ => []) := by
  refine calls_enter (args := [prtV p, prtV q, selfP b]) Tryz.func109 rfl rfl rfl ?_
  refine zA ?_
  refine zB ?_
  (refine wl_box rfl rfl rfl rfl ?_; intro)
  (refine wl_box rfl rfl rfl rfl ?_; intro)
  iterate 2 refine wl_pure Tryz.hT rfl rfl rfl ?_
  refine wl_nil ?_
  refine zE ?_
  refine zA ?_
  refine zB ?_
  refine wl_loadBx 0 Tryz.hT rfl rfl rfl rfl rfl rfl rfl rfl ?_
  refine wl_loadBx 1 Tryz.hT rfl rfl rfl rfl rfl rfl rfl rfl ?_
  refine wl_call1 rfl rfl rfl rfl rfl rfl (by kernel_rfl) (fun W h => crossed_gives p q hp hq h1 h2 W (ht.hp h)) ?_
  iterate 7 refine wl_pure Tryz.hT rfl rfl rfl ?_
  refine wl_nil ?_
  refine zE ?_
  iterate 2 refine zA ?_
  refine zB ?_
  iterate 2 refine wl_pure Tryz.hT rfl rfl rfl ?_
  refine wl_nil ?_
  refine zE ?_
  refine zS rfl ?_
  refine zI ?_
  refine zE ?_
  refine zA ?_
  refine zB ?_
  refine wl_load rfl rfl rfl rfl (fun W hp => RowAt.load 0 Tryz.hT rfl ((fun W h => hrow.hp h) W hp) rfl) ?_
  iterate 2 refine wl_pure Tryz.hT rfl rfl rfl ?_
  refine wl_call1 (capt := []) rfl rfl rfl rfl rfl rfl hE (fun W h => hop W (ht.hp h)) ?_
  iterate 5 refine wl_pure Tryz.hT rfl rfl rfl ?_
  refine wl_nil ?_
  refine zE ?_
  iterate 2 refine zA ?_
  refine zB ?_
  iterate 2 refine wl_pure Tryz.hT rfl rfl rfl ?_
  refine wl_nil ?_
  refine zE ?_
  refine zS rfl ?_
  refine zI ?_
  refine zE ?_
  refine zA ?_
  refine zB ?_
  refine wl_pure Tryz.hT rfl rfl rfl ?_
  refine wl_loadBx 0 Tryz.hT rfl rfl rfl rfl rfl rfl rfl rfl ?_
  refine wl_pure Tryz.hT rfl rfl rfl ?_
  refine wl_loadBx 1 Tryz.hT rfl rfl rfl rfl rfl rfl rfl rfl ?_
  refine wl_call1 rfl rfl rfl rfl rfl rfl (by kernel_rfl) (fun W h => (imul_gives (p.den : Nat) (q.den : Nat) hp.2 hq.2 W (ht.hp h)).cast (resV_N hd)) ?_
  iterate 5 refine wl_pure Tryz.hT rfl rfl rfl ?_
  refine wl_nil ?_
  refine zE ?_
  iterate 2 refine zA ?_
  refine zB ?_
  iterate 2 refine wl_pure Tryz.hT rfl rfl rfl ?_
  refine wl_nil ?_
  refine zE ?_
  refine zS rfl ?_
  refine zI ?_
  refine zE ?_
  refine zA ?_
  refine zB ?_
  iterate 2 refine wl_pure Tryz.hT rfl rfl rfl ?_
  refine wl_call1 rfl rfl rfl rfl rfl rfl (by kernel_rfl) (fun W h => ratNumber_gives z ((p.den : Nat) * (q.den : Nat)) okN_den hz hd W (ht.hp h)) ?_
  iterate 4 refine wl_pure Tryz.hT rfl rfl rfl ?_
  refine wl_nil ?_
  refine zE ?_
  refine zO ?_
  exact ne_ret2 Tryz.hT rfl (.tmp rfl) (.tmp rfl) () rfl trivial fun W _ => NewBx.nil _ _
set_option maxHeartbeats 8000000 in
theorem mul2_gives (p q : Rat) (hp : okQ p) (hq : okQ q) (hz : okN (p.num * q.num)) (hd : okN ((p.den : Nat) * (q.den : Nat))) (W : World) (ht : TabP W) :
    CallsR Tryz.prog 60 #[prtV p, prtV q] W (fun _ : Unit => .tuple #[str (numS (p * q)), .int .i64 0]) (fun _ => True) (fun _ => []) := by
  refine calls_enter (args := [prtV p, prtV q]) Tryz.func60 rfl rfl rfl ?_
  refine zA ?_
  refine zB ?_
  (refine wl_box rfl rfl rfl rfl ?_; intro)
  (refine wl_box rfl rfl rfl rfl ?_; intro)
  iterate 2 refine wl_pure Tryz.hT rfl rfl rfl ?_
  refine wl_nil ?_
  refine zE ?_
  refine zA ?_
  refine zB ?_
  refine wl_pure Tryz.hT rfl rfl rfl ?_
  refine wl_loadBx 0 Tryz.hT rfl rfl rfl rfl rfl rfl rfl rfl ?_
  refine wl_pure Tryz.hT rfl rfl rfl ?_
  refine wl_loadBx 1 Tryz.hT rfl rfl rfl rfl rfl rfl rfl rfl ?_
  refine wl_call1 rfl rfl rfl rfl rfl rfl (by kernel_rfl) (fun W h => (imul_gives p.num q.num hp.1 hq.1 W (ht.hp h)).cast (resV_N hz)) ?_
  iterate 5 refine wl_pure Tryz.hT rfl rfl rfl ?_
  refine wl_nil ?_
  refine zE ?_
  iterate 2 refine zA ?_
  refine zB ?_
  iterate 2 refine wl_pure Tryz.hT rfl rfl rfl ?_
  refine wl_nil ?_
  refine zE ?_
  refine zS rfl ?_
  refine zI ?_
  refine zE ?_
  refine zA ?_
  refine zB ?_
  refine wl_pure Tryz.hT rfl rfl rfl ?_
  refine wl_loadBx 0 Tryz.hT rfl rfl rfl rfl rfl rfl rfl rfl ?_
  refine wl_pure Tryz.hT rfl rfl rfl ?_
  refine wl_loadBx 1 Tryz.hT rfl rfl rfl rfl rfl rfl rfl rfl ?_
  refine wl_call1 rfl rfl rfl rfl rfl rfl (by kernel_rfl) (fun W h => (imul_gives (p.den : Nat) (q.den : Nat) hp.2 hq.2 W (ht.hp h)).cast (resV_N hd)) ?_
  iterate 5 refine wl_pure Tryz.hT rfl rfl rfl ?_
  refine wl_nil ?_
  refine zE ?_
  iterate 2 refine zA ?_
  refine zB ?_
  iterate 2 refine wl_pure Tryz.hT rfl rfl rfl ?_
  refine wl_nil ?_
  refine zE ?_
  refine zS rfl ?_
  refine zI ?_
  refine zE ?_
  refine zA ?_
  refine zB ?_
  iterate 2 refine wl_pure Tryz.hT rfl rfl rfl ?_
  refine wl_call1 rfl rfl rfl rfl rfl rfl (by kernel_rfl) (fun W h => (ratNumber_gives (p.num * q.num) ((p.den : Nat) * (q.den : Nat)) okN_den hz hd W (ht.hp h)).cast (congrArg (fun r => Value.tuple #[str (numS r), .int .i64 0]) (rat_mul p q))) ?_
  iterate 4 refine wl_pure Tryz.hT rfl rfl rfl ?_
  refine wl_nil ?_
  refine zE ?_
  refine zO ?_
  exact ne_ret2 Tryz.hT rfl (.tmp rfl) (.tmp rfl) () rfl trivial fun W _ => NewBx.nil _ _
/-- What Div gives at 0 is error 12. -/
def divR (p q : Rat) : List UInt8 × Int := if q.num = 0 then ([], 12) else (numS (p / q), 0)
theorem rat_div' (p q : Rat) (hq : q.num ≠ 0) : nrm (p.num * (q.den : Nat)) (q.num * (p.den : Nat)) = p / q := by rw [Int.mul_comm q.num, rat_div p q hq]
set_option maxHeartbeats 8000000 in
theorem div2_gives (p q : Rat) (hp : okQ p) (hq : okQ q) (h1 : okN (p.num * (q.den : Nat))) (h2 : okN (q.num * (p.den : Nat))) (W : World) (ht : TabP W) :
    CallsR Tryz.prog 192 #[prtV p, prtV q] W (fun _ : Unit => .tuple #[str (divR p q).1, .int .i64 (divR p q).2]) (fun _ => True) (fun _ => []) := by
  refine calls_enter (args := [prtV p, prtV q]) Tryz.func192 rfl rfl rfl ?_
  refine zA ?_
  refine zB ?_
  (refine wl_box rfl rfl rfl rfl ?_; intro)
  (refine wl_box rfl rfl rfl rfl ?_; intro)
  iterate 2 refine wl_pure Tryz.hT rfl rfl rfl ?_
  refine wl_nil ?_
  refine zE ?_
  iterate 2 refine zA ?_
  refine zB ?_
  refine wl_pure Tryz.hT rfl rfl rfl ?_
  refine wl_loadBx 1 Tryz.hT rfl rfl rfl rfl rfl rfl rfl rfl ?_
  refine wl_pure Tryz.hT rfl rfl rfl ?_
  by_cases h0 : q.num = 0
  · refine wl_upd 11 (.bool true) rfl (congrArg Value.bool ((strEqB _ [48]).trans (decide_eq_true (itoa_0.2 h0)))) ?_
    refine wl_nil ?_
    refine zE ?_
    refine zR rfl ?_
    refine zA ?_
    refine zB ?_
    iterate 2 refine wl_pure Tryz.hT rfl rfl rfl ?_
    refine wl_nil ?_
    refine zE ?_
    refine zO ?_
    refine zP ?_
    exact ne_ret2 Tryz.hT rfl (.tmp rfl) (.tmp rfl) () (by rw [divR, if_pos h0]) trivial fun W _ => NewBx.nil _ _
  · refine wl_upd 11 (.bool false) rfl (congrArg Value.bool ((strEqB _ [48]).trans (decide_eq_false fun e => h0 (itoa_0.1 e)))) ?_
    refine wl_nil ?_
    refine zE ?_
    refine zS rfl ?_
    refine zI ?_
    refine zE ?_
    refine zA ?_
    refine zB ?_
    refine wl_loadBx 0 Tryz.hT rfl rfl rfl rfl rfl rfl rfl rfl ?_
    refine wl_loadBx 1 Tryz.hT rfl rfl rfl rfl rfl rfl rfl rfl ?_
    refine wl_call1 rfl rfl rfl rfl rfl rfl (by kernel_rfl) (fun W h => crossed_gives p q hp hq h1 h2 W (ht.hp h)) ?_
    iterate 7 refine wl_pure Tryz.hT rfl rfl rfl ?_
    refine wl_nil ?_
    refine zE ?_
    iterate 2 refine zA ?_
    refine zB ?_
    iterate 2 refine wl_pure Tryz.hT rfl rfl rfl ?_
    refine wl_nil ?_
    refine zE ?_
    refine zS rfl ?_
    refine zI ?_
    refine zE ?_
    refine zA ?_
    refine zB ?_
    iterate 2 refine wl_pure Tryz.hT rfl rfl rfl ?_
    refine wl_call1 rfl rfl rfl rfl rfl rfl (by kernel_rfl) (fun W h => (ratNumber_gives (p.num * (q.den : Nat)) (q.num * (p.den : Nat)) (Int.mul_ne_zero h0 (by have := p.den_nz; omega)) h1 h2 W (ht.hp h)).cast (congrArg (fun r => Value.tuple #[str (numS r), .int .i64 0]) (rat_div' p q h0))) ?_
    iterate 4 refine wl_pure Tryz.hT rfl rfl rfl ?_
    refine wl_nil ?_
    refine zE ?_
    refine zO ?_
    exact ne_ret2 Tryz.hT rfl (.tmp rfl) (.tmp rfl) () (by rw [divR, if_neg h0]) trivial fun W _ => NewBx.nil _ _
end Go.Proofs.YteaiopkopifijaaGreatDoor
namespace Go.Proofs.YteaiopkopifijaaGreatDoor
open Go Go.RowKit Go.Am Go.Lib
set_option maxRecDepth 10000
-- BOXES 4
theorem okN_pow {z : Int} {k : Nat} (h : z.natAbs < 10 ^ k) (hk : k ≤ 300) : okN z := Nat.lt_of_lt_of_le h (Nat.pow_le_pow_right (by decide) (show k ≤ mxd from hk))
theorem szQ.ok {q : Rat} {k : Nat} (h : szQ q k) (hk : k ≤ 300) : okQ q := ⟨okN_pow h.1 hk, okN_pow (k := k) (by rw [Int.natAbs_natCast]; exact h.2) hk⟩
theorem szQ.mono {q : Rat} {k m : Nat} (h : szQ q k) (hk : k ≤ m) : szQ q m := ⟨Nat.lt_of_lt_of_le h.1 (Nat.pow_le_pow_right (by decide) hk), Nat.lt_of_lt_of_le h.2 (Nat.pow_le_pow_right (by decide) hk)⟩
theorem imul_pow {x y : Int} {a b : Nat} (hx : x.natAbs < 10 ^ a) (hy : y.natAbs < 10 ^ b) : (x * y).natAbs < 10 ^ (a + b) := by
  rw [Int.natAbs_mul]; exact mul_pow hx hy (Nat.le_refl _)
theorem iadd_pow {x y : Int} {a : Nat} (hx : x.natAbs < 10 ^ a) (hy : y.natAbs < 10 ^ a) : (x + y).natAbs < 10 ^ (a + 1) := by
  rw [Nat.pow_succ]; omega
theorem isub_pow {x y : Int} {a : Nat} (hx : x.natAbs < 10 ^ a) (hy : y.natAbs < 10 ^ a) : (x - y).natAbs < 10 ^ (a + 1) := by
  rw [Nat.pow_succ]; omega
/-- What two numbers' sizes give. -/
structure Sz2 (p q : Rat) : Prop where
  okp : okQ p
  okq : okQ q
  c1 : okN (p.num * (q.den : Nat))
  c2 : okN (q.num * (p.den : Nat))
  d : okN ((p.den : Nat) * (q.den : Nat))
  n : okN (p.num * q.num)
  add : okN (p.num * (q.den : Nat) + q.num * (p.den : Nat))
  sub : okN (p.num * (q.den : Nat) - q.num * (p.den : Nat))
theorem sz2 {p q : Rat} {a b : Nat} (hp : szQ p a) (hq : szQ q b) (hk : a + b + 1 ≤ 300) : Sz2 p q := by
  have hqd : ((q.den : Nat) : Int).natAbs < 10 ^ b := by rw [Int.natAbs_natCast]; exact hq.2
  have hpd : ((p.den : Nat) : Int).natAbs < 10 ^ a := by rw [Int.natAbs_natCast]; exact hp.2
  have e1 := imul_pow hp.1 hqd
  have e2 := imul_pow hq.1 hpd
  rw [Nat.add_comm b a] at e2
  exact ⟨hp.ok (by omega), hq.ok (by omega), okN_pow e1 (by omega), okN_pow e2 (by omega), okN_pow (imul_pow hpd hqd) (by omega), okN_pow (imul_pow hp.1 hq.1) (by omega), okN_pow (iadd_pow e1 e2) hk, okN_pow (isub_pow e1 e2) hk⟩
theorem szQ.add {p q : Rat} {a b : Nat} (hp : szQ p a) (hq : szQ q b) : szQ (p + q) (a + b + 1) := by
  have hqd : ((q.den : Nat) : Int).natAbs < 10 ^ b := by rw [Int.natAbs_natCast]; exact hq.2
  have hpd : ((p.den : Nat) : Int).natAbs < 10 ^ a := by rw [Int.natAbs_natCast]; exact hp.2
  have e1 := imul_pow hp.1 hqd
  have e2 := imul_pow hq.1 hpd
  rw [Nat.add_comm b a] at e2
  rw [← rat_add]
  exact nrm_num _ okN_den (iadd_pow e1 e2) (Nat.lt_of_lt_of_le (imul_pow hpd hqd) (Nat.pow_le_pow_right (by decide) (by omega)))
theorem szQ.sub {p q : Rat} {a b : Nat} (hp : szQ p a) (hq : szQ q b) : szQ (p - q) (a + b + 1) := by
  have hqd : ((q.den : Nat) : Int).natAbs < 10 ^ b := by rw [Int.natAbs_natCast]; exact hq.2
  have hpd : ((p.den : Nat) : Int).natAbs < 10 ^ a := by rw [Int.natAbs_natCast]; exact hp.2
  have e1 := imul_pow hp.1 hqd
  have e2 := imul_pow hq.1 hpd
  rw [Nat.add_comm b a] at e2
  rw [← rat_sub]
  exact nrm_num _ okN_den (isub_pow e1 e2) (Nat.lt_of_lt_of_le (imul_pow hpd hqd) (Nat.pow_le_pow_right (by decide) (by omega)))
theorem szQ.mul {p q : Rat} {a b : Nat} (hp : szQ p a) (hq : szQ q b) : szQ (p * q) (a + b) := by
  have hqd : ((q.den : Nat) : Int).natAbs < 10 ^ b := by rw [Int.natAbs_natCast]; exact hq.2
  have hpd : ((p.den : Nat) : Int).natAbs < 10 ^ a := by rw [Int.natAbs_natCast]; exact hp.2
  rw [← rat_mul]
  exact nrm_num _ okN_den (imul_pow hp.1 hq.1) (imul_pow hpd hqd)
theorem szQ.div {p q : Rat} {a b : Nat} (hp : szQ p a) (hq : szQ q b) (h0 : q.num ≠ 0) : szQ (p / q) (a + b) := by
  have hqd : ((q.den : Nat) : Int).natAbs < 10 ^ b := by rw [Int.natAbs_natCast]; exact hq.2
  have hpd : ((p.den : Nat) : Int).natAbs < 10 ^ a := by rw [Int.natAbs_natCast]; exact hp.2
  rw [← rat_div p q h0]
  exact nrm_num _ (Int.mul_ne_zero (by have := p.den_nz; omega) h0) (imul_pow hp.1 hqd) (imul_pow hpd hq.1)
theorem TabP.below {W0 W : World} (h : TabP W0) (hb : Below W0.heap.size W0 W) : TabP W := tabBelow_of_tabIs h W hb
theorem sm_d (p : Rat) (h : smQ p) : ((p.den : Nat) : Int).natAbs < 100000000 := by rw [Int.natAbs_natCast]; exact h.2
set_option maxHeartbeats 8000000 in
theorem radd_gives (p q : Rat) (h : Sz2 p q) (W0 : World) (hv : MaxP W0) (ht : TabP W0) :
    CallsR Tryz.prog 124 #[str (numS p), str (numS q)] W0 (fun _ : Unit => .tuple #[str (numS (p + q)), .int .i64 0]) (fun _ => True) (fun _ => []) := by
  have hlp := numS_len h.okp
  have hlq := numS_len h.okq
  refine calls_enter (args := [str (numS p), str (numS q)]) Tryz.func124 rfl rfl rfl ?_
  repeat (first | refine zA ?_ | refine zB ?_ | refine zC ?_ | refine zD ?_ | refine zE ?_ | refine zF ?_ | refine zG ?_ | refine zH ?_ | refine zI ?_ | refine zJ ?_ | refine zK ?_ | refine zL ?_ | refine zM rfl ?_ | refine zN ?_ | refine zO ?_ | refine zP ?_ | refine zQ ?_ | refine zR rfl ?_ | refine zS rfl ?_ | refine zT Tryz.mixed (by kernel_rfl) ?_)
  iterate 2 refine wl_pure Tryz.hT rfl rfl rfl ?_
  refine wl_nil ?_
  repeat (first | refine zA ?_ | refine zB ?_ | refine zC ?_ | refine zD ?_ | refine zE ?_ | refine zF ?_ | refine zG ?_ | refine zH ?_ | refine zI ?_ | refine zJ ?_ | refine zK ?_ | refine zL ?_ | refine zM rfl ?_ | refine zN ?_ | refine zO ?_ | refine zP ?_ | refine zQ ?_ | refine zR rfl ?_ | refine zS rfl ?_ | refine zT Tryz.mixed (by kernel_rfl) ?_)
  iterate 2 refine wl_pure Tryz.hT rfl rfl rfl ?_
  have hquick : ∀ W, TabP W → CallsR Tryz.prog 54 #[str (numS p), str (numS q), .func (.func 189) #[] #[]] W (fun _ : Unit => if smQ p ∧ smQ q then .tuple #[str (numS (p + q)), .bool true] else .tuple #[str [], .bool false]) (fun _ => True) (fun _ => []) :=
    fun W ht => quick_gives p q (p + q) (p.num * (q.den : Nat) + q.num * (p.den : Nat)) ((p.den : Nat) * (q.den : Nat)) _ (by kernel_rfl) (by omega) (by omega) (fun hp hq => by
      have m1 := mul_8 hp.1 (sm_d q hq)
      have m2 := mul_8 hq.1 (sm_d p hp)
      have m3 := mul_8 (sm_d p hp) (sm_d q hq)
      exact ⟨addC_gives _ _ _ _ hp.1 (sm_d p hp) hq.1 (sm_d q hq), okN_den, by omega, by omega, rat_add p q⟩) W ht
  by_cases hs : smQ p ∧ smQ q
  · refine wl_call1 rfl rfl rfl rfl rfl rfl (by kernel_rfl) (fun W h => (hquick W (ht.hp h)).cast (if_pos hs)) ?_
    iterate 5 refine wl_pure Tryz.hT rfl rfl rfl ?_
    refine wl_nil ?_
    repeat (first | refine zA ?_ | refine zB ?_ | refine zC ?_ | refine zD ?_ | refine zE ?_ | refine zF ?_ | refine zG ?_ | refine zH ?_ | refine zI ?_ | refine zJ ?_ | refine zK ?_ | refine zL ?_ | refine zM rfl ?_ | refine zN ?_ | refine zO ?_ | refine zP ?_ | refine zQ ?_ | refine zR rfl ?_ | refine zS rfl ?_ | refine zT Tryz.mixed (by kernel_rfl) ?_)
    refine wl_pure Tryz.hT rfl rfl rfl ?_
    refine wl_nil ?_
    repeat (first | refine zA ?_ | refine zB ?_ | refine zC ?_ | refine zD ?_ | refine zE ?_ | refine zF ?_ | refine zG ?_ | refine zH ?_ | refine zI ?_ | refine zJ ?_ | refine zK ?_ | refine zL ?_ | refine zM rfl ?_ | refine zN ?_ | refine zO ?_ | refine zP ?_ | refine zQ ?_ | refine zR rfl ?_ | refine zS rfl ?_ | refine zT Tryz.mixed (by kernel_rfl) ?_)
    iterate 3 refine wl_pure Tryz.hT rfl rfl rfl ?_
    refine wl_nil ?_
    repeat (first | refine zA ?_ | refine zB ?_ | refine zC ?_ | refine zD ?_ | refine zE ?_ | refine zF ?_ | refine zG ?_ | refine zH ?_ | refine zI ?_ | refine zJ ?_ | refine zK ?_ | refine zL ?_ | refine zM rfl ?_ | refine zN ?_ | refine zO ?_ | refine zP ?_ | refine zQ ?_ | refine zR rfl ?_ | refine zS rfl ?_ | refine zT Tryz.mixed (by kernel_rfl) ?_)
    exact ne_ret2 Tryz.hT rfl (.tmp rfl) (.tmp rfl) () rfl trivial fun W _ => NewBx.nil _ _
  · refine wl_call1 rfl rfl rfl rfl rfl rfl (by kernel_rfl) (fun W h => (hquick W (ht.hp h)).cast (if_neg hs)) ?_
    iterate 5 refine wl_pure Tryz.hT rfl rfl rfl ?_
    refine wl_nil ?_
    repeat (first | refine zA ?_ | refine zB ?_ | refine zC ?_ | refine zD ?_ | refine zE ?_ | refine zF ?_ | refine zG ?_ | refine zH ?_ | refine zI ?_ | refine zJ ?_ | refine zK ?_ | refine zL ?_ | refine zM rfl ?_ | refine zN ?_ | refine zO ?_ | refine zP ?_ | refine zQ ?_ | refine zR rfl ?_ | refine zS rfl ?_ | refine zT Tryz.mixed (by kernel_rfl) ?_)
    refine wl_pure Tryz.hT rfl rfl rfl ?_
    refine wl_nil ?_
    repeat (first | refine zA ?_ | refine zB ?_ | refine zC ?_ | refine zD ?_ | refine zE ?_ | refine zF ?_ | refine zG ?_ | refine zH ?_ | refine zI ?_ | refine zJ ?_ | refine zK ?_ | refine zL ?_ | refine zM rfl ?_ | refine zN ?_ | refine zO ?_ | refine zP ?_ | refine zQ ?_ | refine zR rfl ?_ | refine zS rfl ?_ | refine zT Tryz.mixed (by kernel_rfl) ?_)
    iterate 2 refine wl_pure Tryz.hT rfl rfl rfl ?_
    refine wl_call (X := Nat) rfl rfl rfl rfl rfl rfl (by kernel_rfl) (fun W _ => combined_gives 190 W) ?_
    intro b18 _
    refine wl_call1 rfl rfl rfl rfl rfl rfl (by kernel_rfl) (fun W hp => rboth_gives p q (numS (p + q)) 0 109 [selfP b18] h.okp h.okq W (hv.hp hp) (ht.hp hp) (by kernel_rfl) (fun W' hb => (combC_gives p q b18 190 (p.num * (q.den : Nat) + q.num * (p.den : Nat)) h.okp h.okq h.c1 h.c2 h.add h.d (by kernel_rfl) (fun W2 ht2 => (iaddS_gives _ _ h.c1 h.c2 W2 ht2).cast (resV_N h.add)) W' ((ht.hp hp).below hb) ((RowAt.of_bx hp 0 rfl rfl).below (Nat.le_refl _) hb)).cast (congrArg (fun r => Value.tuple #[str (numS r), .int .i64 0]) (rat_add p q)))) ?_
    iterate 4 refine wl_pure Tryz.hT rfl rfl rfl ?_
    refine wl_nil ?_
    repeat (first | refine zA ?_ | refine zB ?_ | refine zC ?_ | refine zD ?_ | refine zE ?_ | refine zF ?_ | refine zG ?_ | refine zH ?_ | refine zI ?_ | refine zJ ?_ | refine zK ?_ | refine zL ?_ | refine zM rfl ?_ | refine zN ?_ | refine zO ?_ | refine zP ?_ | refine zQ ?_ | refine zR rfl ?_ | refine zS rfl ?_ | refine zT Tryz.mixed (by kernel_rfl) ?_)
    exact ne_ret2 Tryz.hT rfl (.tmp rfl) (.tmp rfl) () rfl trivial fun W _ => NewBx.nil _ _
end Go.Proofs.YteaiopkopifijaaGreatDoor
namespace Go.Proofs.YteaiopkopifijaaGreatDoor
open Go Go.RowKit Go.Am Go.Lib
set_option maxRecDepth 10000
-- BOXES 4
set_option maxHeartbeats 8000000 in
theorem rsub_gives (p q : Rat) (h : Sz2 p q) (W0 : World) (hv : MaxP W0) (ht : TabP W0) :
    CallsR Tryz.prog 19 #[str (numS p), str (numS q)] W0 (fun _ : Unit => .tuple #[str (numS (p - q)), .int .i64 0]) (fun _ => True) (fun _ => []) := by
  have hlp := numS_len h.okp
  have hlq := numS_len h.okq
  refine calls_enter (args := [str (numS p), str (numS q)]) Tryz.func19 rfl rfl rfl ?_
  refine zA ?_
  refine zB ?_
  iterate 2 refine wl_pure Tryz.hT rfl rfl rfl ?_
  refine wl_nil ?_
  refine zE ?_
  iterate 2 refine zA ?_
  refine zB ?_
  iterate 2 refine wl_pure Tryz.hT rfl rfl rfl ?_
  have hquick : ∀ W, TabP W → CallsR Tryz.prog 54 #[str (numS p), str (numS q), .func (.func 55) #[] #[]] W (fun _ : Unit => if smQ p ∧ smQ q then .tuple #[str (numS (p - q)), .bool true] else .tuple #[str [], .bool false]) (fun _ => True) (fun _ => []) :=
    fun W ht => quick_gives p q (p - q) (p.num * (q.den : Nat) - q.num * (p.den : Nat)) ((p.den : Nat) * (q.den : Nat)) _ (by kernel_rfl) (by omega) (by omega) (fun hp hq => by
      have m1 := mul_8 hp.1 (sm_d q hq)
      have m2 := mul_8 hq.1 (sm_d p hp)
      have m3 := mul_8 (sm_d p hp) (sm_d q hq)
      exact ⟨subC_gives _ _ _ _ hp.1 (sm_d p hp) hq.1 (sm_d q hq), okN_den, by omega, by omega, rat_sub p q⟩) W ht
  by_cases hs : smQ p ∧ smQ q
  · refine wl_call1 rfl rfl rfl rfl rfl rfl (by kernel_rfl) (fun W h => (hquick W (ht.hp h)).cast (if_pos hs)) ?_
    iterate 5 refine wl_pure Tryz.hT rfl rfl rfl ?_
    refine wl_nil ?_
    refine zE ?_
    refine zA ?_
    refine zB ?_
    refine wl_pure Tryz.hT rfl rfl rfl ?_
    refine wl_nil ?_
    refine zE ?_
    refine zR rfl ?_
    refine zA ?_
    refine zB ?_
    iterate 3 refine wl_pure Tryz.hT rfl rfl rfl ?_
    refine wl_nil ?_
    refine zE ?_
    refine zO ?_
    refine zP ?_
    exact ne_ret2 Tryz.hT rfl (.tmp rfl) (.tmp rfl) () rfl trivial fun W _ => NewBx.nil _ _
  · refine wl_call1 rfl rfl rfl rfl rfl rfl (by kernel_rfl) (fun W h => (hquick W (ht.hp h)).cast (if_neg hs)) ?_
    iterate 5 refine wl_pure Tryz.hT rfl rfl rfl ?_
    refine wl_nil ?_
    refine zE ?_
    refine zA ?_
    refine zB ?_
    refine wl_pure Tryz.hT rfl rfl rfl ?_
    refine wl_nil ?_
    refine zE ?_
    refine zS rfl ?_
    refine zI ?_
    refine zE ?_
    refine zA ?_
    refine zB ?_
    iterate 2 refine wl_pure Tryz.hT rfl rfl rfl ?_
    refine wl_call (X := Nat) rfl rfl rfl rfl rfl rfl (by kernel_rfl) (fun W _ => combined_gives 58 W) ?_
    intro b18 _
    refine wl_call1 rfl rfl rfl rfl rfl rfl (by kernel_rfl) (fun W hp => rboth_gives p q (numS (p - q)) 0 109 [selfP b18] h.okp h.okq W (hv.hp hp) (ht.hp hp) (by kernel_rfl) (fun W' hb => (combC_gives p q b18 58 (p.num * (q.den : Nat) - q.num * (p.den : Nat)) h.okp h.okq h.c1 h.c2 h.sub h.d (by kernel_rfl) (fun W2 ht2 => (isub_gives _ _ h.c1 h.c2 W2 ht2).cast (resV_N h.sub)) W' ((ht.hp hp).below hb) ((RowAt.of_bx hp 0 rfl rfl).below (Nat.le_refl _) hb)).cast (congrArg (fun r => Value.tuple #[str (numS r), .int .i64 0]) (rat_sub p q)))) ?_
    iterate 4 refine wl_pure Tryz.hT rfl rfl rfl ?_
    refine wl_nil ?_
    refine zE ?_
    refine zO ?_
    exact ne_ret2 Tryz.hT rfl (.tmp rfl) (.tmp rfl) () rfl trivial fun W _ => NewBx.nil _ _
set_option maxHeartbeats 8000000 in
theorem rmul_gives (p q : Rat) (h : Sz2 p q) (W0 : World) (hv : MaxP W0) (ht : TabP W0) :
    CallsR Tryz.prog 20 #[str (numS p), str (numS q)] W0 (fun _ : Unit => .tuple #[str (numS (p * q)), .int .i64 0]) (fun _ => True) (fun _ => []) := by
  have hlp := numS_len h.okp
  have hlq := numS_len h.okq
  refine calls_enter (args := [str (numS p), str (numS q)]) Tryz.func20 rfl rfl rfl ?_
  refine zA ?_
  refine zB ?_
  iterate 2 refine wl_pure Tryz.hT rfl rfl rfl ?_
  refine wl_nil ?_
  refine zE ?_
  iterate 2 refine zA ?_
  refine zB ?_
  iterate 2 refine wl_pure Tryz.hT rfl rfl rfl ?_
  have hquick : ∀ W, TabP W → CallsR Tryz.prog 54 #[str (numS p), str (numS q), .func (.func 59) #[] #[]] W (fun _ : Unit => if smQ p ∧ smQ q then .tuple #[str (numS (p * q)), .bool true] else .tuple #[str [], .bool false]) (fun _ => True) (fun _ => []) :=
    fun W ht => quick_gives p q (p * q) (p.num * q.num) ((p.den : Nat) * (q.den : Nat)) _ (by kernel_rfl) (by omega) (by omega) (fun hp hq => by
      have m1 := mul_8 hp.1 hq.1
      have m3 := mul_8 (sm_d p hp) (sm_d q hq)
      exact ⟨mulC_gives _ _ _ _ hp.1 (sm_d p hp) hq.1 (sm_d q hq), okN_den, by omega, by omega, rat_mul p q⟩) W ht
  by_cases hs : smQ p ∧ smQ q
  · refine wl_call1 rfl rfl rfl rfl rfl rfl (by kernel_rfl) (fun W h => (hquick W (ht.hp h)).cast (if_pos hs)) ?_
    iterate 5 refine wl_pure Tryz.hT rfl rfl rfl ?_
    refine wl_nil ?_
    refine zE ?_
    refine zA ?_
    refine zB ?_
    refine wl_pure Tryz.hT rfl rfl rfl ?_
    refine wl_nil ?_
    refine zE ?_
    refine zR rfl ?_
    refine zA ?_
    refine zB ?_
    iterate 3 refine wl_pure Tryz.hT rfl rfl rfl ?_
    refine wl_nil ?_
    refine zE ?_
    refine zO ?_
    refine zP ?_
    exact ne_ret2 Tryz.hT rfl (.tmp rfl) (.tmp rfl) () rfl trivial fun W _ => NewBx.nil _ _
  · refine wl_call1 rfl rfl rfl rfl rfl rfl (by kernel_rfl) (fun W h => (hquick W (ht.hp h)).cast (if_neg hs)) ?_
    iterate 5 refine wl_pure Tryz.hT rfl rfl rfl ?_
    refine wl_nil ?_
    refine zE ?_
    refine zA ?_
    refine zB ?_
    refine wl_pure Tryz.hT rfl rfl rfl ?_
    refine wl_nil ?_
    refine zE ?_
    refine zS rfl ?_
    refine zI ?_
    refine zE ?_
    refine zA ?_
    refine zB ?_
    iterate 2 refine wl_pure Tryz.hT rfl rfl rfl ?_
    refine wl_call1 rfl rfl rfl rfl rfl rfl (by kernel_rfl) (fun W hp => rboth_gives p q (numS (p * q)) 0 60 [] h.okp h.okq W (hv.hp hp) (ht.hp hp) (by kernel_rfl) (fun W' hb => mul2_gives p q h.okp h.okq h.n h.d W' ((ht.hp hp).below hb))) ?_
    iterate 4 refine wl_pure Tryz.hT rfl rfl rfl ?_
    refine wl_nil ?_
    refine zE ?_
    refine zO ?_
    exact ne_ret2 Tryz.hT rfl (.tmp rfl) (.tmp rfl) () rfl trivial fun W _ => NewBx.nil _ _
theorem numS_0 {q : Rat} : numS q = [48] ↔ q.num = 0 := by
  constructor
  · intro h
    unfold numS parS at h
    split at h
    · exact itoa_0.1 h
    · have : (47 : UInt8) ∈ ([48] : List UInt8) := by rw [← h]; exact List.mem_append_right _ (List.mem_cons_self ..)
      exact absurd this (by decide)
  · intro h
    have hd : q.den = 1 := by
      have := q.reduced
      rw [h] at this
      simpa [Nat.Coprime] using this
    rw [numS, parS, if_pos hd, h, itoa_zero]
set_option maxHeartbeats 8000000 in
theorem rdiv_gives (p q : Rat) (h : Sz2 p q) (W0 : World) (hv : MaxP W0) (ht : TabP W0) :
    CallsR Tryz.prog 125 #[str (numS p), str (numS q)] W0 (fun _ : Unit => .tuple #[str (divR p q).1, .int .i64 (divR p q).2]) (fun _ => True) (fun _ => []) := by
  have hlp := numS_len h.okp
  have hlq := numS_len h.okq
  have hboth : ∀ W, MaxP W → TabP W → CallsR Tryz.prog 56 #[str (numS p), str (numS q), .func (.func 192) #[] #[]] W (fun _ : Unit => .tuple #[str (divR p q).1, .int .i64 (divR p q).2]) (fun _ => True) (fun _ => []) :=
    fun W hv ht => rboth_gives p q _ _ 192 [] h.okp h.okq W hv ht (by kernel_rfl) (fun W' hb => div2_gives p q h.okp h.okq h.c1 h.c2 W' (ht.below hb))
  refine calls_enter (args := [str (numS p), str (numS q)]) Tryz.func125 rfl rfl rfl ?_
  refine zA ?_
  refine zB ?_
  iterate 2 refine wl_pure Tryz.hT rfl rfl rfl ?_
  refine wl_nil ?_
  refine zE ?_
  iterate 2 refine zA ?_
  refine zB ?_
  iterate 2 refine wl_pure Tryz.hT rfl rfl rfl ?_
  by_cases h0 : q.num = 0
  · refine wl_upd 9 (.bool false) rfl (congrArg Value.bool (by show (!_) = false; rw [strEqB, decide_eq_true (numS_0.2 h0)]; rfl)) ?_
    refine wl_nil ?_
    refine zE ?_
    refine zS rfl ?_
    refine zI ?_
    refine zE ?_
    refine zA ?_
    refine zB ?_
    iterate 2 refine wl_pure Tryz.hT rfl rfl rfl ?_
    refine wl_call1 rfl rfl rfl rfl rfl rfl (by kernel_rfl) (fun W hp => hboth W (hv.hp hp) (ht.hp hp)) ?_
    iterate 4 refine wl_pure Tryz.hT rfl rfl rfl ?_
    refine wl_nil ?_
    refine zE ?_
    refine zO ?_
    exact ne_ret2 Tryz.hT rfl (.tmp rfl) (.tmp rfl) () rfl trivial fun W _ => NewBx.nil _ _
  · have hval : divR p q = (numS (p / q), 0) := if_neg h0
    refine wl_upd 9 (.bool true) rfl (congrArg Value.bool (by show (!_) = true; rw [strEqB, decide_eq_false fun e => h0 (numS_0.1 e)]; rfl)) ?_
    refine wl_nil ?_
    refine zE ?_
    refine zR rfl ?_
    refine zA ?_
    refine zB ?_
    iterate 2 refine wl_pure Tryz.hT rfl rfl rfl ?_
    have hquick : ∀ W, TabP W → CallsR Tryz.prog 54 #[str (numS p), str (numS q), .func (.func 191) #[] #[]] W (fun _ : Unit => if smQ p ∧ smQ q then .tuple #[str (numS (p / q)), .bool true] else .tuple #[str [], .bool false]) (fun _ => True) (fun _ => []) :=
      fun W ht => quick_gives p q (p / q) (p.num * (q.den : Nat)) ((p.den : Nat) * q.num) _ (by kernel_rfl) (by omega) (by omega) (fun hp hq => by
        have m1 := mul_8 hp.1 (sm_d q hq)
        have m3 := mul_8 (sm_d p hp) hq.1
        exact ⟨divC_gives _ _ _ _ hp.1 (sm_d p hp) hq.1 (sm_d q hq), Int.mul_ne_zero (by have := p.den_nz; omega) h0, by omega, by omega, rat_div p q h0⟩) W ht
    by_cases hs : smQ p ∧ smQ q
    · refine wl_call1 rfl rfl rfl rfl rfl rfl (by kernel_rfl) (fun W h => (hquick W (ht.hp h)).cast (if_pos hs)) ?_
      iterate 5 refine wl_pure Tryz.hT rfl rfl rfl ?_
      refine wl_nil ?_
      refine zE ?_
      refine zA ?_
      refine zB ?_
      refine wl_pure Tryz.hT rfl rfl rfl ?_
      refine wl_nil ?_
      refine zE ?_
      refine zR rfl ?_
      refine zA ?_
      refine zB ?_
      iterate 3 refine wl_pure Tryz.hT rfl rfl rfl ?_
      refine wl_nil ?_
      refine zE ?_
      refine zO ?_
      refine zP ?_
      exact ne_ret2 Tryz.hT rfl (.tmp rfl) (.tmp rfl) () (by rw [hval]) trivial fun W _ => NewBx.nil _ _
    · refine wl_call1 rfl rfl rfl rfl rfl rfl (by kernel_rfl) (fun W h => (hquick W (ht.hp h)).cast (if_neg hs)) ?_
      iterate 5 refine wl_pure Tryz.hT rfl rfl rfl ?_
      refine wl_nil ?_
      refine zE ?_
      refine zA ?_
      refine zB ?_
      refine wl_pure Tryz.hT rfl rfl rfl ?_
      refine wl_nil ?_
      refine zE ?_
      refine zS rfl ?_
      refine zI ?_
      refine zE ?_
      refine zA ?_
      refine zB ?_
      iterate 2 refine wl_pure Tryz.hT rfl rfl rfl ?_
      refine wl_call1 rfl rfl rfl rfl rfl rfl (by kernel_rfl) (fun W hp => hboth W (hv.hp hp) (ht.hp hp)) ?_
      iterate 4 refine wl_pure Tryz.hT rfl rfl rfl ?_
      refine wl_nil ?_
      refine zE ?_
      refine zO ?_
      exact ne_ret2 Tryz.hT rfl (.tmp rfl) (.tmp rfl) () rfl trivial fun W _ => NewBx.nil _ _
end Go.Proofs.YteaiopkopifijaaGreatDoor
namespace Go.Proofs.YteaiopkopifijaaGreatDoor
open Go Go.RowKit Go.Am Go.Lib
set_option maxRecDepth 10000
-- BOXES 5
set_option maxHeartbeats 8000000 in
theorem rcompare_gives (p q : Rat) (h : Sz2 p q) (W0 : World) (hv : MaxP W0) (ht : TabP W0) :
    CallsR Tryz.prog 22 #[str (numS p), str (numS q)] W0 (fun _ : Unit => .tuple #[.int .i64 (cmpZ (p.num * (q.den : Nat)) (q.num * (p.den : Nat))), .int .i64 0]) (fun _ => True) (fun _ => []) := by
  have hlp := numS_len h.okp
  have hlq := numS_len h.okq
  refine calls_enter (args := [str (numS p), str (numS q)]) Tryz.func22 rfl rfl rfl ?_
  refine zA ?_
  refine zB ?_
  iterate 2 refine wl_pure Tryz.hT rfl rfl rfl ?_
  refine wl_nil ?_
  refine ne_then ?_
  refine wc_seq ?_
  refine wc_cutS (X := Unit) (fun _ => [(0, str (numS p)), (1, str (numS q)), (4, .int .i64 0), (5, .int .i64 0)]) (fun _ => []) (fun _ => True) ?_ ?_
  · refine zA ?_
    refine zB ?_
    refine wl_pure Tryz.hT rfl rfl rfl ?_
    by_cases hp : smQ p
    · refine wl_call1 rfl rfl rfl rfl rfl rfl (by kernel_rfl) (fun W _ => (nativeOf_gives (numS p) (by omega) W).cast ((natOf_num p).trans (if_pos hp))) ?_
      iterate 3 refine wl_pure Tryz.hT rfl rfl rfl ?_
      (refine wl_allocZ Tryz.hZ rfl rfl rfl rfl ?_; intro)
      refine wl_storeBx 0 Tryz.hT rfl rfl rfl rfl rfl rfl rfl rfl rfl rfl rfl ?_
      refine wl_pure Tryz.hT rfl rfl rfl ?_
      refine wl_nil ?_
      rename_i b6
      refine zE ?_
      refine zA ?_
      refine zB ?_
      refine wl_pure Tryz.hT rfl rfl rfl ?_
      refine wl_nil ?_
      refine zE ?_
      refine zR rfl ?_
      refine zA ?_
      refine zB ?_
      refine wl_pure Tryz.hT rfl rfl rfl ?_
      by_cases hq : smQ q
      · refine wl_call1 rfl rfl rfl rfl rfl rfl (by kernel_rfl) (fun W _ => (nativeOf_gives (numS q) (by omega) W).cast ((natOf_num q).trans (if_pos hq))) ?_
        iterate 3 refine wl_pure Tryz.hT rfl rfl rfl ?_
        (refine wl_allocZ Tryz.hZ rfl rfl rfl rfl ?_; intro)
        refine wl_storeBx 1 Tryz.hT rfl rfl rfl rfl rfl rfl rfl rfl rfl rfl rfl ?_
        refine wl_pure Tryz.hT rfl rfl rfl ?_
        refine wl_nil ?_
        rename_i b8
        refine zE ?_
        refine zA ?_
        refine zB ?_
        refine wl_pure Tryz.hT rfl rfl rfl ?_
        refine wl_nil ?_
        refine zE ?_
        refine zR rfl ?_
        refine zA ?_
        refine zB ?_
        refine wl_pure Tryz.hT rfl rfl rfl ?_
        refine wl_loadBx 0 Tryz.hT rfl rfl rfl rfl rfl rfl rfl rfl ?_
        refine wl_pure Tryz.hT rfl rfl rfl ?_
        refine wl_loadBx 1 Tryz.hT rfl rfl rfl rfl rfl rfl rfl rfl ?_
        refine wl_pure Tryz.hT rfl rfl rfl ?_
        refine wl_upd 31 (.int .i64 (p.num * (q.den : Nat))) rfl (congrArg (Value.int .i64) (w64_mul8 hp.1 (sm_d q hq))) ?_
        refine wl_pure Tryz.hT rfl rfl rfl ?_
        refine wl_loadBx 1 Tryz.hT rfl rfl rfl rfl rfl rfl rfl rfl ?_
        refine wl_pure Tryz.hT rfl rfl rfl ?_
        refine wl_loadBx 0 Tryz.hT rfl rfl rfl rfl rfl rfl rfl rfl ?_
        refine wl_pure Tryz.hT rfl rfl rfl ?_
        refine wl_upd 36 (.int .i64 (q.num * (p.den : Nat))) rfl (congrArg (Value.int .i64) (w64_mul8 hq.1 (sm_d p hp))) ?_
        refine wl_call1 rfl rfl rfl rfl rfl rfl (by kernel_rfl) (fun W _ => icmp_gives _ _ W) ?_
        iterate 2 refine wl_pure Tryz.hT rfl rfl rfl ?_
        refine wl_nil ?_
        refine zE ?_
        refine zO ?_
        refine zP ?_
        exact ne_ret2 Tryz.hT rfl (.tmp rfl) (.tmp rfl) () rfl trivial fun W _ => NewBx.nil _ _
      · refine wl_call1 rfl rfl rfl rfl rfl rfl (by kernel_rfl) (fun W _ => (nativeOf_gives (numS q) (by omega) W).cast ((natOf_num q).trans (if_neg hq))) ?_
        iterate 3 refine wl_pure Tryz.hT rfl rfl rfl ?_
        (refine wl_allocZ Tryz.hZ rfl rfl rfl rfl ?_; intro)
        refine wl_storeBx 1 Tryz.hT rfl rfl rfl rfl rfl rfl rfl rfl rfl rfl rfl ?_
        refine wl_pure Tryz.hT rfl rfl rfl ?_
        refine wl_nil ?_
        refine zE ?_
        refine zA ?_
        refine zB ?_
        refine wl_pure Tryz.hT rfl rfl rfl ?_
        refine wl_nil ?_
        refine zE ?_
        refine zS rfl ?_
        refine zI ?_
        exact ne_cut () trivial ⟨rfl, rfl, rfl, rfl, trivial⟩ _ rfl
    · refine wl_call1 rfl rfl rfl rfl rfl rfl (by kernel_rfl) (fun W _ => (nativeOf_gives (numS p) (by omega) W).cast ((natOf_num p).trans (if_neg hp))) ?_
      iterate 3 refine wl_pure Tryz.hT rfl rfl rfl ?_
      (refine wl_allocZ Tryz.hZ rfl rfl rfl rfl ?_; intro)
      refine wl_storeBx 0 Tryz.hT rfl rfl rfl rfl rfl rfl rfl rfl rfl rfl rfl ?_
      refine wl_pure Tryz.hT rfl rfl rfl ?_
      refine wl_nil ?_
      refine zE ?_
      refine zA ?_
      refine zB ?_
      refine wl_pure Tryz.hT rfl rfl rfl ?_
      refine wl_nil ?_
      refine zE ?_
      refine zS rfl ?_
      refine zI ?_
      exact ne_cut () trivial ⟨rfl, rfl, rfl, rfl, trivial⟩ _ rfl
  · intro _ _
    refine zA ?_
    refine zB ?_
    refine wl_pure Tryz.hT rfl rfl rfl ?_
    refine wl_call1 rfl rfl rfl rfl rfl rfl (by kernel_rfl) (fun W hp => (rread_gives (numS p) (by omega) W (hv.hp hp) (ht.hp hp)).cast (rd_num h.okp)) ?_
    iterate 3 refine wl_pure Tryz.hT rfl rfl rfl ?_
    (refine wl_allocZ Tryz.hZ rfl rfl rfl rfl ?_; intro)
    refine wl_storeBx 0 Tryz.hT rfl rfl rfl rfl rfl rfl rfl rfl rfl rfl rfl ?_
    refine wl_pure Tryz.hT rfl rfl rfl ?_
    refine wl_nil ?_
    rename_i b10
    refine zE ?_
    iterate 2 refine zA ?_
    refine zB ?_
    iterate 2 refine wl_pure Tryz.hT rfl rfl rfl ?_
    refine wl_nil ?_
    refine zE ?_
    refine zS rfl ?_
    refine zI ?_
    refine zE ?_
    refine zA ?_
    refine zB ?_
    refine wl_pure Tryz.hT rfl rfl rfl ?_
    refine wl_call1 rfl rfl rfl rfl rfl rfl (by kernel_rfl) (fun W hp => (rread_gives (numS q) (by omega) W (hv.hp hp) (ht.hp hp)).cast (rd_num h.okq)) ?_
    iterate 3 refine wl_pure Tryz.hT rfl rfl rfl ?_
    (refine wl_allocZ Tryz.hZ rfl rfl rfl rfl ?_; intro)
    refine wl_storeBx 1 Tryz.hT rfl rfl rfl rfl rfl rfl rfl rfl rfl rfl rfl ?_
    refine wl_pure Tryz.hT rfl rfl rfl ?_
    refine wl_nil ?_
    rename_i b12
    refine zE ?_
    iterate 2 refine zA ?_
    refine zB ?_
    iterate 2 refine wl_pure Tryz.hT rfl rfl rfl ?_
    refine wl_nil ?_
    refine zE ?_
    refine zS rfl ?_
    refine zI ?_
    refine zE ?_
    refine zA ?_
    refine zB ?_
    refine wl_loadBx 0 Tryz.hT rfl rfl rfl rfl rfl rfl rfl rfl ?_
    refine wl_loadBx 1 Tryz.hT rfl rfl rfl rfl rfl rfl rfl rfl ?_
    refine wl_call1 rfl rfl rfl rfl rfl rfl (by kernel_rfl) (fun W hp => crossed_gives p q h.okp h.okq h.c1 h.c2 W (ht.hp hp)) ?_
    iterate 7 refine wl_pure Tryz.hT rfl rfl rfl ?_
    refine wl_nil ?_
    refine zE ?_
    iterate 2 refine zA ?_
    refine zB ?_
    iterate 2 refine wl_pure Tryz.hT rfl rfl rfl ?_
    refine wl_nil ?_
    refine zE ?_
    refine zS rfl ?_
    refine zI ?_
    refine zE ?_
    refine zA ?_
    refine zB ?_
    iterate 2 refine wl_pure Tryz.hT rfl rfl rfl ?_
    refine wl_call1 rfl rfl rfl rfl rfl rfl (by kernel_rfl) (fun W _ => icompare_gives _ _ h.c1 h.c2 W) ?_
    iterate 4 refine wl_pure Tryz.hT rfl rfl rfl ?_
    refine wl_nil ?_
    refine zE ?_
    refine zO ?_
    exact ne_ret2 Tryz.hT rfl (.tmp rfl) (.tmp rfl) () rfl trivial fun W _ => NewBx.nil _ _
end Go.Proofs.YteaiopkopifijaaGreatDoor
namespace Go.Proofs.YteaiopkopifijaaGreatDoor
open Go Go.RowKit Go.Am Go.Lib
set_option maxRecDepth 10000
-- BOXES 4
theorem nrm_one (a : Int) : numS (nrm a 1) = itoa a := by
  have e : nrm a 1 = mkRat a 1 := rfl
  rw [e, numS_one (by decide) (by rw [Nat.gcd_one_right])]
  rw [Nat.gcd_one_right]
  show itoa (a / 1) = _
  rw [Int.ediv_one]
def ofR (a b : Int) : List UInt8 × Int := if b = 0 then ([], 12) else (numS (nrm a b), 0)
theorem okN_64 {z : Int} (h0 : -9223372036854775808 ≤ z) (h1 : z ≤ 9223372036854775807) : okN z := okN_18 (by
  have : (10 : Nat) ^ 20 = 100000000000000000000 := by decide
  omega)
set_option maxHeartbeats 8000000 in
theorem rof_gives (a b : Int) (ha : -9223372036854775808 ≤ a ∧ a ≤ 9223372036854775807) (hb : -9223372036854775808 ≤ b ∧ b ≤ 9223372036854775807) (W : World) (ht : TabP W) :
    CallsR Tryz.prog 52 #[.int .i64 a, .int .i64 b] W (fun _ : Unit => .tuple #[str (ofR a b).1, .int .i64 (ofR a b).2]) (fun _ => True) (fun _ => []) := by
  refine calls_enter (args := [.int .i64 a, .int .i64 b]) Tryz.func52 rfl rfl rfl ?_
  refine zA ?_
  refine zB ?_
  iterate 2 refine wl_pure Tryz.hT rfl rfl rfl ?_
  refine wl_nil ?_
  refine zE ?_
  iterate 2 refine zA ?_
  refine zB ?_
  refine wl_pure Tryz.hT rfl rfl rfl ?_
  refine wl_nil ?_
  refine zE ?_
  refine zH ?_
  refine zA ?_
  refine zB ?_
  refine wl_pure Tryz.hT rfl rfl rfl ?_
  by_cases h0 : b = 0
  · refine wl_upd 8 (.bool true) rfl (congrArg Value.bool (by rw [h0]; rfl)) ?_
    refine wl_pure Tryz.hT rfl rfl rfl ?_
    refine wl_nil ?_
    refine zE ?_
    refine zR rfl ?_
    refine zA ?_
    refine zB ?_
    iterate 2 refine wl_pure Tryz.hT rfl rfl rfl ?_
    refine wl_nil ?_
    refine zE ?_
    refine zO ?_
    refine zQ ?_
    refine zP ?_
    exact ne_ret2 Tryz.hT rfl (.tmp rfl) (.tmp rfl) () (by rw [ofR, if_pos h0]) trivial fun W _ => NewBx.nil _ _
  · have hval : ofR a b = (numS (nrm a b), 0) := if_neg h0
    refine wl_upd 8 (.bool false) rfl (congrArg Value.bool (by rw [beq_eq_false_iff_ne]; exact h0)) ?_
    refine wl_pure Tryz.hT rfl rfl rfl ?_
    refine wl_nil ?_
    refine zE ?_
    refine zS rfl ?_
    refine zA ?_
    refine zB ?_
    refine wl_pure Tryz.hT rfl rfl rfl ?_
    by_cases h1 : b = 1
    · refine wl_upd 10 (.bool true) rfl (congrArg Value.bool (by rw [h1]; rfl)) ?_
      refine wl_pure Tryz.hT rfl rfl rfl ?_
      refine wl_nil ?_
      refine zE ?_
      refine zR rfl ?_
      refine zA ?_
      refine zB ?_
      refine wl_pure Tryz.hT rfl rfl rfl ?_
      refine wl_call1 rfl rfl rfl rfl rfl rfl (by kernel_rfl) (fun W hp => itoa_gives a ha.1 ha.2 W (ht.hp hp)) ?_
      iterate 2 refine wl_pure Tryz.hT rfl rfl rfl ?_
      refine wl_nil ?_
      refine zE ?_
      refine zO ?_
      refine zQ ?_
      refine zP ?_
      exact ne_ret2 Tryz.hT rfl (.tmp rfl) (.tmp rfl) () (by rw [hval, h1, nrm_one]) trivial fun W _ => NewBx.nil _ _
    · refine wl_upd 10 (.bool false) rfl (congrArg Value.bool (by rw [beq_eq_false_iff_ne]; exact h1)) ?_
      refine wl_pure Tryz.hT rfl rfl rfl ?_
      refine wl_nil ?_
      refine zE ?_
      refine zS rfl ?_
      refine zI ?_
      refine zN ?_
      refine zE ?_
      refine zA ?_
      refine zB ?_
      refine wl_pure Tryz.hT rfl rfl rfl ?_
      refine wl_call1 rfl rfl rfl rfl rfl rfl (by kernel_rfl) (fun W hp => itoa_gives a ha.1 ha.2 W (ht.hp hp)) ?_
      refine wl_pure Tryz.hT rfl rfl rfl ?_
      refine wl_call1 rfl rfl rfl rfl rfl rfl (by kernel_rfl) (fun W hp => itoa_gives b hb.1 hb.2 W (ht.hp hp)) ?_
      refine wl_call1 rfl rfl rfl rfl rfl rfl (by kernel_rfl) (fun W hp => ratNumber_gives a b h0 (okN_64 ha.1 ha.2) (okN_64 hb.1 hb.2) W (ht.hp hp)) ?_
      iterate 4 refine wl_pure Tryz.hT rfl rfl rfl ?_
      refine wl_nil ?_
      refine zE ?_
      refine zO ?_
      exact ne_ret2 Tryz.hT rfl (.tmp rfl) (.tmp rfl) () (by rw [hval]) trivial fun W _ => NewBx.nil _ _
set_option maxHeartbeats 4000000 in
theorem rcheck_gives (a : List UInt8) (hl : a.length ≤ 4000000000) (W : World) (hv : MaxP W) (ht : TabP W) :
    CallsR Tryz.prog 84 #[str a] W (fun _ : Unit => .int .i64 (rdR a).2) (fun _ => True) (fun _ => []) := by
  refine calls_enter (args := [str a]) Tryz.func84 rfl rfl rfl ?_
  refine zA ?_
  refine zB ?_
  refine wl_pure Tryz.hT rfl rfl rfl ?_
  refine wl_nil ?_
  refine zE ?_
  refine zA ?_
  refine zB ?_
  refine wl_pure Tryz.hT rfl rfl rfl ?_
  refine wl_call1 rfl rfl rfl rfl rfl rfl (by kernel_rfl) (fun W h => rread_gives a hl W (hv.hp h) (ht.hp h)) ?_
  iterate 3 refine wl_pure Tryz.hT rfl rfl rfl ?_
  (refine wl_allocZ Tryz.hZ rfl rfl rfl rfl ?_; intro)
  refine wl_storeBx 0 Tryz.hT rfl rfl rfl rfl rfl rfl rfl rfl rfl rfl rfl ?_
  refine wl_pure Tryz.hT rfl rfl rfl ?_
  refine wl_nil ?_
  refine zE ?_
  refine zA ?_
  refine zB ?_
  iterate 2 refine wl_pure Tryz.hT rfl rfl rfl ?_
  refine wl_nil ?_
  refine zE ?_
  refine zO ?_
  exact ne_ret1 Tryz.hT rfl (.tmp rfl) () rfl trivial fun W _ => NewBx.nil _ _
theorem rd_okQ {q : Rat} (h : okQ q) : rdR (numS q) = ((itoa q.num, decDigits q.den), 0) := by
  have hd : q.den < ten300 := by have := h.2; unfold okN at this; rwa [Int.natAbs_natCast] at this
  have hf : frm (numS q) = some (q.num, q.den) := frm_parS q.num q.den_pos
  unfold rdR; rw [hf]; exact (if_pos ⟨h.1, hd⟩).trans (if_pos q.reduced)
end Go.Proofs.YteaiopkopifijaaGreatDoor
namespace Go.Proofs.YteaiopkopifijaaGreatDoor
open Go Go.RowKit Go.Am Go.Lib
set_option maxRecDepth 10000
-- BOXES 4
theorem wholeQ (z : Int) : nrm z 1 = (z : Rat) := by
  show mkRat z 1 = _
  exact Rat.mkRat_one z
theorem ofR_one (z : Int) : ofR z 1 = (numS (z : Rat), 0) := by
  rw [ofR, if_neg (by decide), wholeQ]
set_option maxHeartbeats 4000000 in
theorem fwhole_gives (z : Int) (hz : -9223372036854775808 ≤ z ∧ z ≤ 9223372036854775807) (W : World) (ht : TabP W) :
    CallsR Tryz.prog 70 #[.int .i64 z] W (fun _ : Unit => str (numS (z : Rat))) (fun _ => True) (fun _ => []) := by
  refine calls_enter (args := [.int .i64 z]) Tryz.func70 rfl rfl rfl ?_
  refine zA ?_
  refine zB ?_
  refine wl_pure Tryz.hT rfl rfl rfl ?_
  refine wl_nil ?_
  refine zE ?_
  refine zA ?_
  refine zB ?_
  refine wl_pure Tryz.hT rfl rfl rfl ?_
  refine wl_call1 rfl rfl rfl rfl rfl rfl (by kernel_rfl) (fun W hp => (rof_gives z 1 hz (by decide) W (ht.hp hp)).cast (by rw [ofR_one])) ?_
  iterate 5 refine wl_pure Tryz.hT rfl rfl rfl ?_
  refine wl_nil ?_
  refine zE ?_
  refine zA ?_
  refine zB ?_
  iterate 2 refine wl_pure Tryz.hT rfl rfl rfl ?_
  refine wl_nil ?_
  refine zE ?_
  refine zO ?_
  exact ne_ret1 Tryz.hT rfl (.tmp rfl) () rfl trivial fun W _ => NewBx.nil _ _
theorem lnum_gives (a b : Int) (hb0 : b ≠ 0) (ha : -9223372036854775808 ≤ a ∧ a ≤ 9223372036854775807) (hb : -9223372036854775808 ≤ b ∧ b ≤ 9223372036854775807) (W : World) (ht : TabP W) :
    CallsR Tryz.prog 16 #[.int .i64 a, .int .i64 b] W (fun _ : Unit => str (numS (nrm a b))) (fun _ => True) (fun _ => []) := by
  refine calls_enter (args := [.int .i64 a, .int .i64 b]) Tryz.func16 rfl rfl rfl ?_
  refine zA ?_
  refine zB ?_
  refine wl_pure Tryz.hT rfl rfl rfl ?_
  refine wl_nil ?_
  refine zE ?_
  refine zA ?_
  refine zB ?_
  iterate 2 refine wl_pure Tryz.hT rfl rfl rfl ?_
  refine wl_call1 rfl rfl rfl rfl rfl rfl (by kernel_rfl) (fun W hp => (rof_gives a b ha hb W (ht.hp hp)).cast (by rw [ofR, if_neg hb0])) ?_
  iterate 5 refine wl_pure Tryz.hT rfl rfl rfl ?_
  refine wl_nil ?_
  refine zE ?_
  refine zA ?_
  refine zB ?_
  iterate 2 refine wl_pure Tryz.hT rfl rfl rfl ?_
  refine wl_nil ?_
  refine zE ?_
  refine zO ?_
  exact ne_ret1 Tryz.hT rfl (.tmp rfl) () rfl trivial fun W _ => NewBx.nil _ _
theorem fadd_gives (p q : Rat) (h : Sz2 p q) (W : World) (hv : MaxP W) (ht : TabP W) :
    CallsR Tryz.prog 72 #[str (numS p), str (numS q)] W (fun _ : Unit => str (numS (p + q))) (fun _ => True) (fun _ => []) := by
  refine calls_enter (args := [str (numS p), str (numS q)]) Tryz.func72 rfl rfl rfl ?_
  refine zA ?_
  refine zB ?_
  refine wl_pure Tryz.hT rfl rfl rfl ?_
  refine wl_nil ?_
  refine zE ?_
  refine zA ?_
  refine zB ?_
  iterate 2 refine wl_pure Tryz.hT rfl rfl rfl ?_
  refine wl_call1 rfl rfl rfl rfl rfl rfl (by kernel_rfl) (fun W hp => radd_gives p q h W (hv.hp hp) (ht.hp hp)) ?_
  iterate 5 refine wl_pure Tryz.hT rfl rfl rfl ?_
  refine wl_nil ?_
  refine zE ?_
  refine zA ?_
  refine zB ?_
  iterate 2 refine wl_pure Tryz.hT rfl rfl rfl ?_
  refine wl_nil ?_
  refine zE ?_
  refine zO ?_
  exact ne_ret1 Tryz.hT rfl (.tmp rfl) () rfl trivial fun W _ => NewBx.nil _ _
theorem fsub_gives (p q : Rat) (h : Sz2 p q) (W : World) (hv : MaxP W) (ht : TabP W) :
    CallsR Tryz.prog 71 #[str (numS p), str (numS q)] W (fun _ : Unit => str (numS (p - q))) (fun _ => True) (fun _ => []) := by
  refine calls_enter (args := [str (numS p), str (numS q)]) Tryz.func71 rfl rfl rfl ?_
  refine zA ?_
  refine zB ?_
  refine wl_pure Tryz.hT rfl rfl rfl ?_
  refine wl_nil ?_
  refine zE ?_
  refine zA ?_
  refine zB ?_
  iterate 2 refine wl_pure Tryz.hT rfl rfl rfl ?_
  refine wl_call1 rfl rfl rfl rfl rfl rfl (by kernel_rfl) (fun W hp => rsub_gives p q h W (hv.hp hp) (ht.hp hp)) ?_
  iterate 5 refine wl_pure Tryz.hT rfl rfl rfl ?_
  refine wl_nil ?_
  refine zE ?_
  refine zA ?_
  refine zB ?_
  iterate 2 refine wl_pure Tryz.hT rfl rfl rfl ?_
  refine wl_nil ?_
  refine zE ?_
  refine zO ?_
  exact ne_ret1 Tryz.hT rfl (.tmp rfl) () rfl trivial fun W _ => NewBx.nil _ _
theorem fmul_gives (p q : Rat) (h : Sz2 p q) (W : World) (hv : MaxP W) (ht : TabP W) :
    CallsR Tryz.prog 69 #[str (numS p), str (numS q)] W (fun _ : Unit => str (numS (p * q))) (fun _ => True) (fun _ => []) := by
  refine calls_enter (args := [str (numS p), str (numS q)]) Tryz.func69 rfl rfl rfl ?_
  refine zA ?_
  refine zB ?_
  refine wl_pure Tryz.hT rfl rfl rfl ?_
  refine wl_nil ?_
  refine zE ?_
  refine zA ?_
  refine zB ?_
  iterate 2 refine wl_pure Tryz.hT rfl rfl rfl ?_
  refine wl_call1 rfl rfl rfl rfl rfl rfl (by kernel_rfl) (fun W hp => rmul_gives p q h W (hv.hp hp) (ht.hp hp)) ?_
  iterate 5 refine wl_pure Tryz.hT rfl rfl rfl ?_
  refine wl_nil ?_
  refine zE ?_
  refine zA ?_
  refine zB ?_
  iterate 2 refine wl_pure Tryz.hT rfl rfl rfl ?_
  refine wl_nil ?_
  refine zE ?_
  refine zO ?_
  exact ne_ret1 Tryz.hT rfl (.tmp rfl) () rfl trivial fun W _ => NewBx.nil _ _
theorem fdiv_gives (p q : Rat) (h : Sz2 p q) (h0 : q.num ≠ 0) (W : World) (hv : MaxP W) (ht : TabP W) :
    CallsR Tryz.prog 73 #[str (numS p), str (numS q)] W (fun _ : Unit => str (numS (p / q))) (fun _ => True) (fun _ => []) := by
  refine calls_enter (args := [str (numS p), str (numS q)]) Tryz.func73 rfl rfl rfl ?_
  refine zA ?_
  refine zB ?_
  refine wl_pure Tryz.hT rfl rfl rfl ?_
  refine wl_nil ?_
  refine zE ?_
  refine zA ?_
  refine zB ?_
  iterate 2 refine wl_pure Tryz.hT rfl rfl rfl ?_
  refine wl_call1 rfl rfl rfl rfl rfl rfl (by kernel_rfl) (fun W hp => (rdiv_gives p q h W (hv.hp hp) (ht.hp hp)).cast (by rw [divR, if_neg h0])) ?_
  iterate 5 refine wl_pure Tryz.hT rfl rfl rfl ?_
  refine wl_nil ?_
  refine zE ?_
  refine zA ?_
  refine zB ?_
  iterate 2 refine wl_pure Tryz.hT rfl rfl rfl ?_
  refine wl_nil ?_
  refine zE ?_
  refine zO ?_
  exact ne_ret1 Tryz.hT rfl (.tmp rfl) () rfl trivial fun W _ => NewBx.nil _ _
theorem cmpQ_lt (p q : Rat) : p.num * (q.den : Nat) < q.num * (p.den : Nat) ↔ p < q := (Rat.lt_iff p q).symm
def cmpQ (p q : Rat) : Int := if p < q then -1 else if p = q then 0 else 1
theorem cmpZ_Q (p q : Rat) : cmpZ (p.num * (q.den : Nat)) (q.num * (p.den : Nat)) = cmpQ p q := by
  unfold cmpZ cmpQ
  have h1 := cmpQ_lt p q
  have h2 : p.num * (q.den : Nat) = q.num * (p.den : Nat) ↔ p = q := by
    constructor
    · intro h
      have a := Rat.num_divInt_den p
      have b := Rat.num_divInt_den q
      rw [← a, ← b]
      exact (Rat.divInt_eq_divInt_iff (by have := p.den_nz; omega) (by have := q.den_nz; omega)).2 h
    · rintro rfl; rfl
  by_cases h : p < q
  · rw [if_pos h, if_pos (h1.2 h)]
  · rw [if_neg h, if_neg (fun e => h (h1.1 e))]
    by_cases e : p = q
    · rw [if_pos e, if_pos (h2.2 e)]
    · rw [if_neg e, if_neg (fun h => e (h2.1 h))]
theorem fcompare_gives (p q : Rat) (h : Sz2 p q) (W : World) (hv : MaxP W) (ht : TabP W) :
    CallsR Tryz.prog 50 #[str (numS p), str (numS q)] W (fun _ : Unit => .int .i64 (cmpQ p q)) (fun _ => True) (fun _ => []) := by
  refine calls_enter (args := [str (numS p), str (numS q)]) Tryz.func50 rfl rfl rfl ?_
  refine zA ?_
  refine zB ?_
  refine wl_pure Tryz.hT rfl rfl rfl ?_
  refine wl_nil ?_
  refine zE ?_
  refine zA ?_
  refine zB ?_
  iterate 2 refine wl_pure Tryz.hT rfl rfl rfl ?_
  refine wl_call1 rfl rfl rfl rfl rfl rfl (by kernel_rfl) (fun W hp => (rcompare_gives p q h W (hv.hp hp) (ht.hp hp)).cast (by rw [cmpZ_Q])) ?_
  iterate 5 refine wl_pure Tryz.hT rfl rfl rfl ?_
  refine wl_nil ?_
  refine zE ?_
  refine zA ?_
  refine zB ?_
  iterate 2 refine wl_pure Tryz.hT rfl rfl rfl ?_
  refine wl_nil ?_
  refine zE ?_
  refine zO ?_
  exact ne_ret1 Tryz.hT rfl (.tmp rfl) () rfl trivial fun W _ => NewBx.nil _ _
end Go.Proofs.YteaiopkopifijaaGreatDoor
namespace Go.Proofs.YteaiopkopifijaaGreatDoor
open Go Go.RowKit Go.Am Go.Lib
set_option maxRecDepth 10000
-- BOXES 4
set_option maxHeartbeats 4000000 in
theorem rparts_gives (q : Rat) (h : okQ q) (W : World) (hv : MaxP W) (ht : TabP W) :
    CallsR Tryz.prog 132 #[str (numS q)] W (fun _ : Unit => .tuple #[str (itoa q.num), str (itoa (q.den : Nat)), .int .i64 0]) (fun _ => True) (fun _ => []) := by
  have hl := numS_len h
  refine calls_enter (args := [str (numS q)]) Tryz.func132 rfl rfl rfl ?_
  refine zA ?_
  refine zB ?_
  iterate 3 refine wl_pure Tryz.hT rfl rfl rfl ?_
  refine wl_nil ?_
  refine zE ?_
  refine zA ?_
  refine zB ?_
  refine wl_pure Tryz.hT rfl rfl rfl ?_
  refine wl_call1 rfl rfl rfl rfl rfl rfl (by kernel_rfl) (fun W hp => (rread_gives (numS q) (by omega) W (hv.hp hp) (ht.hp hp)).cast (rd_num h)) ?_
  iterate 3 refine wl_pure Tryz.hT rfl rfl rfl ?_
  (refine wl_allocZ Tryz.hZ rfl rfl rfl rfl ?_; intro)
  refine wl_storeBx 0 Tryz.hT rfl rfl rfl rfl rfl rfl rfl rfl rfl rfl rfl ?_
  refine wl_pure Tryz.hT rfl rfl rfl ?_
  refine wl_nil ?_
  refine zE ?_
  refine zA ?_
  refine zT Tryz.mixed (by kernel_rfl) ?_
  refine wq_pure Tryz.hT rfl rfl rfl ?_
  refine wq_loadBx 0 Tryz.hT rfl rfl rfl rfl rfl rfl rfl rfl ?_
  refine wq_pure Tryz.hT rfl rfl rfl ?_
  refine wq_loadBx 0 Tryz.hT rfl rfl rfl rfl rfl rfl rfl rfl ?_
  iterate 4 refine wq_pure Tryz.hT rfl rfl rfl ?_
  refine wq_nil ?_
  refine wl_nil ?_
  refine zE ?_
  refine zO ?_
  exact ne_ret3 Tryz.hT rfl (.tmp rfl) (.tmp rfl) (.tmp rfl) () rfl trivial fun W _ => NewBx.nil _ _
theorem fdigits_gives (z : Int) : Gives Tryz.prog 133 [str (itoa z)] (.int .i64 ((decDigits z.natAbs).length : Nat)) := by
  intro W
  refine calls_enter Tryz.func133 rfl rfl rfl ?_
  refine zA ?_
  refine zB ?_
  refine wl_pure Tryz.hT rfl rfl rfl ?_
  refine wl_nil ?_
  refine zE ?_
  refine zA ?_
  refine zB ?_
  refine wl_pure Tryz.hT rfl rfl rfl ?_
  refine wl_call1 rfl rfl rfl rfl rfl rfl (by kernel_rfl) (fun W _ => (trimPrefix_gives (itoa z) [45] W).cast (by rw [trimPrefix_itoa])) ?_
  refine wl_pure Tryz.hT rfl rfl rfl ?_
  refine wl_upd 5 (.int .i64 ((decDigits z.natAbs).length : Nat)) rfl (congrArg (fun n : Nat => Value.int .i64 (n : Int)) (str_size _)) ?_
  refine wl_pure Tryz.hT rfl rfl rfl ?_
  refine wl_nil ?_
  refine zE ?_
  refine zO ?_
  exact ne_ret1 Tryz.hT rfl (.tmp rfl) () rfl trivial fun W _ => NewBx.nil _ _
set_option maxHeartbeats 4000000 in
theorem fnumber_gives (q : Rat) (h : szQ q 36) (W : World) (hv : MaxP W) (ht : TabP W) :
    CallsR Tryz.prog 85 #[str (numS q)] W (fun _ : Unit => .int .i64 0) (fun _ => True) (fun _ => []) := by
  have hk := h.ok (by decide)
  have hl := numS_len hk
  have l1 := dd_len 36 q.num.natAbs (by decide) h.1
  have l2 := dd_len 36 ((q.den : Nat) : Int).natAbs (by decide) (by rw [Int.natAbs_natCast]; exact h.2)
  refine calls_enter (args := [str (numS q)]) Tryz.func85 rfl rfl rfl ?_
  refine zA ?_
  refine zB ?_
  refine wl_pure Tryz.hT rfl rfl rfl ?_
  refine wl_nil ?_
  refine zE ?_
  iterate 2 refine zA ?_
  refine zB ?_
  refine wl_pure Tryz.hT rfl rfl rfl ?_
  refine wl_call1 rfl rfl rfl rfl rfl rfl (by kernel_rfl) (fun W hp => (rcheck_gives (numS q) (by omega) W (hv.hp hp) (ht.hp hp)).cast (by rw [rd_okQ hk])) ?_
  refine wl_pure Tryz.hT rfl rfl rfl ?_
  refine wl_nil ?_
  refine zE ?_
  refine zA ?_
  refine zB ?_
  iterate 2 refine wl_pure Tryz.hT rfl rfl rfl ?_
  refine wl_nil ?_
  refine zE ?_
  refine zS rfl ?_
  refine zI ?_
  refine zE ?_
  iterate 2 refine zA ?_
  refine zB ?_
  refine wl_pure Tryz.hT rfl rfl rfl ?_
  refine wl_call1 rfl rfl rfl rfl rfl rfl (by kernel_rfl) (fun W hp => rparts_gives q hk W (hv.hp hp) (ht.hp hp)) ?_
  iterate 7 refine wl_pure Tryz.hT rfl rfl rfl ?_
  refine wl_nil ?_
  refine zE ?_
  refine zA ?_
  refine zB ?_
  refine wl_pure Tryz.hT rfl rfl rfl ?_
  refine wl_call1 rfl rfl rfl rfl rfl rfl (by kernel_rfl) (fun W _ => fdigits_gives q.num W) ?_
  refine wl_pure Tryz.hT rfl rfl rfl ?_
  refine wl_call1 rfl rfl rfl rfl rfl rfl (by kernel_rfl) (fun W _ => fdigits_gives (q.den : Nat) W) ?_
  iterate 2 refine wl_pure Tryz.hT rfl rfl rfl ?_
  refine wl_upd 23 (.bool false) rfl (congrArg Value.bool (decide_eq_false (by
    show ¬ ((if _ > _ then _ else _) > _)
    split <;> omega))) ?_
  refine wl_nil ?_
  refine zE ?_
  refine zS rfl ?_
  refine zI ?_
  refine zE ?_
  refine zA ?_
  refine zB ?_
  refine wl_pure Tryz.hT rfl rfl rfl ?_
  refine wl_nil ?_
  refine zE ?_
  refine zO ?_
  exact ne_ret1 Tryz.hT rfl (.tmp rfl) () rfl trivial fun W _ => NewBx.nil _ _
theorem hasPrefix_numS (q : Rat) : hasPrefix (numS q) [45] = decide (q.num < 0) := by
  have h := hasPrefix_itoa q.num
  unfold numS parS
  split
  · exact h
  · rw [hasPrefix45] at h ⊢
    rw [← h]
    have hne : (itoa q.num) ≠ [] := by
      unfold itoa
      split
      · intro h; cases h
      · exact dd_ne _
    rw [List.getElem?_append_left (List.length_pos_iff.2 hne)]
/-- A front. -/
structure FrP where
  ax : Bool
  pos : Int
  hd : Int
  sp : Rat
  st : Rat
abbrev frV (f : FrP) : Value := .agg #[.bool f.ax, .int .i64 f.pos, .int .i64 f.hd, str (numS f.sp), str (numS f.st)]
structure FrP.OK (f : FrP) : Prop where
  p0 : 0 ≤ f.pos
  p1 : f.pos ≤ 65536
  hd : f.hd = 1 ∨ f.hd = -1
  sp : szQ f.sp 36
  st : szQ f.st 36
  sp0 : 0 ≤ f.sp.num
set_option maxHeartbeats 8000000 in
theorem fcheck_gives (f : FrP) (h : f.OK) (W : World) (hv : MaxP W) (ht : TabP W) :
    CallsR Tryz.prog 34 #[frV f] W (fun _ : Unit => .int .i64 0) (fun _ => True) (fun _ => []) := by
  obtain ⟨p0, p1, hhd, hsp, hst, hsp0⟩ := h
  have l1 := numS_len (hsp.ok (by decide))
  have l2 := numS_len (hst.ok (by decide))
  refine calls_enter (args := [frV f]) Tryz.func34 rfl rfl rfl ?_
  refine zA ?_
  refine zB ?_
  (refine wl_box rfl rfl rfl rfl ?_; intro)
  refine wl_pure Tryz.hT rfl rfl rfl ?_
  refine wl_nil ?_
  rename_i b1
  refine ne_then ?_
  iterate 2 refine wc_seq ?_
  refine wc_cutS (X := Unit) (fun _ => [(1, selfP b1), (2, .int .i64 0), (26, .bool false)]) (fun _ => [⟨b1, 30, [.bool f.ax, .int .i64 f.pos, .int .i64 f.hd, str (numS f.sp), str (numS f.st)], true, none⟩]) (fun _ => True) ?_ ?_
  · refine zB ?_
    refine wl_pure Tryz.hT rfl rfl rfl ?_
    refine wl_loadBx 0 Tryz.hT rfl rfl rfl rfl rfl rfl rfl rfl ?_
    refine wl_pure Tryz.hT rfl rfl rfl ?_
    refine wl_upd 11 (.bool false) rfl (congrArg Value.bool (decide_eq_false (by omega))) ?_
    iterate 2 refine wl_pure Tryz.hT rfl rfl rfl ?_
    refine wl_loadBx 0 Tryz.hT rfl rfl rfl rfl rfl rfl rfl rfl ?_
    refine wl_pure Tryz.hT rfl rfl rfl ?_
    refine wl_upd 15 (.bool false) rfl (congrArg Value.bool (decide_eq_false (by omega))) ?_
    iterate 3 refine wl_pure Tryz.hT rfl rfl rfl ?_
    refine wl_loadBx 0 Tryz.hT rfl rfl rfl rfl rfl rfl rfl rfl ?_
    refine wl_pure Tryz.hT rfl rfl rfl ?_
    rcases hhd with e | e
    · refine wl_upd 20 (.bool false) rfl (congrArg Value.bool (by rw [e]; rfl)) ?_
      refine wl_pure Tryz.hT rfl rfl rfl ?_
      iterate 3 refine wl_skip rfl rfl ?_
      iterate 2 refine wl_pure Tryz.hT rfl rfl rfl ?_
      refine wl_nil ?_
      exact ne_cut () trivial ⟨rfl, rfl, rfl, trivial⟩ [] rfl
    · refine wl_upd 20 (.bool true) rfl (congrArg Value.bool (by rw [e]; rfl)) ?_
      iterate 2 refine wl_pure Tryz.hT rfl rfl rfl ?_
      refine wl_loadBx 0 Tryz.hT rfl rfl rfl rfl rfl rfl rfl rfl ?_
      refine wl_pure Tryz.hT rfl rfl rfl ?_
      refine wl_upd 24 (.bool false) rfl (congrArg Value.bool (by rw [e]; rfl)) ?_
      iterate 2 refine wl_pure Tryz.hT rfl rfl rfl ?_
      refine wl_nil ?_
      exact ne_cut () trivial ⟨rfl, rfl, rfl, trivial⟩ [] rfl
  · intro _ _
    refine zS rfl ?_
    refine zI ?_
    refine zE ?_
    iterate 2 refine zA ?_
    refine zB ?_
    refine wl_pure Tryz.hT rfl rfl rfl ?_
    refine wl_loadBx 0 Tryz.hT rfl rfl rfl rfl rfl rfl rfl rfl ?_
    refine wl_pure Tryz.hT rfl rfl rfl ?_
    refine wl_loadBx 0 Tryz.hT rfl rfl rfl rfl rfl rfl rfl rfl ?_
    refine wl_buildRowZ Tryz.hZ Tryz.hT rfl rfl rfl rfl rfl rfl rfl rfl rfl rfl rfl fun bS => ?_
    iterate 2 refine wl_pure Tryz.hT rfl rfl rfl ?_
    refine wl_nil ?_
    refine ne_then ?_
    refine wc_cutS (X := Unit) (fun _ => [(1, selfP b1), (2, .int .i64 0)]) (fun _ => [⟨b1, 30, [.bool f.ax, .int .i64 f.pos, .int .i64 f.hd, str (numS f.sp), str (numS f.st)], true, none⟩]) (fun _ => True) ?_ ?_
    · refine wc_block ?_
      refine wc_loop (X := Nat) (fun i => [(1, selfP b1), (2, .int .i64 0), (31, .slice (some ⟨bS, 0, none⟩) 2 2), (32, .int .i64 2), (33, .int .i64 (i : Nat))]) (fun _ => [⟨b1, 30, [.bool f.ax, .int .i64 f.pos, .int .i64 f.hd, str (numS f.sp), str (numS f.st)], true, none⟩, ⟨bS, 28, [str (numS f.sp), str (numS f.st)], true, none⟩]) (fun i => i ≤ 2) (fun i => 2 - i) 0 (Nat.zero_le _) ⟨rfl, rfl, rfl, rfl, rfl, trivial⟩ [] rfl ?_
      intro i hi
      have hi : i = 0 ∨ i = 1 ∨ i = 2 := by have : i ≤ 2 := hi; omega
      rcases hi with rfl | rfl | rfl
      · refine zA ?_
        refine zB ?_
        refine wl_pure Tryz.hT rfl rfl rfl ?_
        refine wl_nil ?_
        refine zE ?_
        refine zA ?_
        refine zR rfl ?_
        refine zI ?_
        refine zE ?_
        refine zA ?_
        refine zH ?_
        refine zA ?_
        refine zB ?_
        refine wl_indexAddr Tryz.hT rfl rfl rfl rfl rfl rfl rfl (by omega) (by omega) ?_
        refine wl_loadBx 1 Tryz.hT rfl rfl rfl rfl rfl rfl rfl rfl ?_
        refine wl_pure Tryz.hT rfl rfl rfl ?_
        refine wl_nil ?_
        refine zE ?_
        refine zA ?_
        refine zB ?_
        refine wl_pure Tryz.hT rfl rfl rfl ?_
        refine wl_call1 rfl rfl rfl rfl rfl rfl (by kernel_rfl) (fun W hp => (rcheck_gives (numS f.sp) (by omega) W (hv.hp hp) (ht.hp hp)).cast (by rw [rd_okQ (hsp.ok (by decide))])) ?_
        refine wl_pure Tryz.hT rfl rfl rfl ?_
        refine wl_nil ?_
        refine zE ?_
        refine zA ?_
        refine zB ?_
        iterate 2 refine wl_pure Tryz.hT rfl rfl rfl ?_
        refine wl_nil ?_
        refine zE ?_
        refine zS rfl ?_
        refine zI ?_
        refine zN ?_
        refine zE ?_
        refine zB ?_
        iterate 2 refine wl_pure Tryz.hT rfl rfl rfl ?_
        refine wl_nil ?_
        exact ne_loop 1 (by decide) (by decide) ⟨rfl, rfl, rfl, rfl, rfl, trivial⟩ [] rfl
      · refine zA ?_
        refine zB ?_
        refine wl_pure Tryz.hT rfl rfl rfl ?_
        refine wl_nil ?_
        refine zE ?_
        refine zA ?_
        refine zR rfl ?_
        refine zI ?_
        refine zE ?_
        refine zA ?_
        refine zH ?_
        refine zA ?_
        refine zB ?_
        refine wl_indexAddr Tryz.hT rfl rfl rfl rfl rfl rfl rfl (by omega) (by omega) ?_
        refine wl_loadBx 1 Tryz.hT rfl rfl rfl rfl rfl rfl rfl rfl ?_
        refine wl_pure Tryz.hT rfl rfl rfl ?_
        refine wl_nil ?_
        refine zE ?_
        refine zA ?_
        refine zB ?_
        refine wl_pure Tryz.hT rfl rfl rfl ?_
        refine wl_call1 rfl rfl rfl rfl rfl rfl (by kernel_rfl) (fun W hp => (rcheck_gives (numS f.st) (by omega) W (hv.hp hp) (ht.hp hp)).cast (by rw [rd_okQ (hst.ok (by decide))])) ?_
        refine wl_pure Tryz.hT rfl rfl rfl ?_
        refine wl_nil ?_
        refine zE ?_
        refine zA ?_
        refine zB ?_
        iterate 2 refine wl_pure Tryz.hT rfl rfl rfl ?_
        refine wl_nil ?_
        refine zE ?_
        refine zS rfl ?_
        refine zI ?_
        refine zN ?_
        refine zE ?_
        refine zB ?_
        iterate 2 refine wl_pure Tryz.hT rfl rfl rfl ?_
        refine wl_nil ?_
        exact ne_loop 2 (by decide) (by decide) ⟨rfl, rfl, rfl, rfl, rfl, trivial⟩ [] rfl
      · refine zA ?_
        refine zB ?_
        refine wl_pure Tryz.hT rfl rfl rfl ?_
        refine wl_nil ?_
        refine zE ?_
        refine zA ?_
        refine zS rfl ?_
        refine zJ ?_
        iterate 2 refine zK ?_
        refine zL ?_
        exact ne_cut () trivial ⟨rfl, rfl, trivial⟩ _ rfl
    · intro _ _
      refine wc_seq ?_
      refine zA ?_
      refine zB ?_
      refine wl_pure Tryz.hT rfl rfl rfl ?_
      refine wl_loadBx 0 Tryz.hT rfl rfl rfl rfl rfl rfl rfl rfl ?_
      refine wl_pure Tryz.hT rfl rfl rfl ?_
      refine wl_loadBx 0 Tryz.hT rfl rfl rfl rfl rfl rfl rfl rfl ?_
      refine wl_buildRowZ Tryz.hZ Tryz.hT rfl rfl rfl rfl rfl rfl rfl rfl rfl rfl rfl fun bT => ?_
      iterate 2 refine wl_pure Tryz.hT rfl rfl rfl ?_
      refine wl_nil ?_
      refine ne_then ?_
      refine wc_cutS (X := Unit) (fun _ => [(1, selfP b1), (2, .int .i64 0)]) (fun _ => [⟨b1, 30, [.bool f.ax, .int .i64 f.pos, .int .i64 f.hd, str (numS f.sp), str (numS f.st)], true, none⟩]) (fun _ => True) ?_ ?_
      · refine wc_block ?_
        refine wc_loop (X := Nat) (fun i => [(1, selfP b1), (2, .int .i64 0), (47, .slice (some ⟨bT, 0, none⟩) 2 2), (48, .int .i64 2), (49, .int .i64 (i : Nat))]) (fun _ => [⟨b1, 30, [.bool f.ax, .int .i64 f.pos, .int .i64 f.hd, str (numS f.sp), str (numS f.st)], true, none⟩, ⟨bT, 28, [str (numS f.sp), str (numS f.st)], true, none⟩]) (fun i => i ≤ 2) (fun i => 2 - i) 0 (Nat.zero_le _) ⟨rfl, rfl, rfl, rfl, rfl, trivial⟩ [] rfl ?_
        intro i hi
        have hi : i = 0 ∨ i = 1 ∨ i = 2 := by have : i ≤ 2 := hi; omega
        rcases hi with rfl | rfl | rfl
        · refine zA ?_
          refine zB ?_
          refine wl_pure Tryz.hT rfl rfl rfl ?_
          refine wl_nil ?_
          refine zE ?_
          refine zA ?_
          refine zR rfl ?_
          refine zI ?_
          refine zE ?_
          refine zA ?_
          refine zH ?_
          refine zA ?_
          refine zB ?_
          refine wl_indexAddr Tryz.hT rfl rfl rfl rfl rfl rfl rfl (by omega) (by omega) ?_
          refine wl_loadBx 1 Tryz.hT rfl rfl rfl rfl rfl rfl rfl rfl ?_
          refine wl_pure Tryz.hT rfl rfl rfl ?_
          refine wl_nil ?_
          refine zE ?_
          refine zA ?_
          refine zB ?_
          refine wl_pure Tryz.hT rfl rfl rfl ?_
          refine wl_call1 rfl rfl rfl rfl rfl rfl (by kernel_rfl) (fun W hp => fnumber_gives f.sp hsp W (hv.hp hp) (ht.hp hp)) ?_
          refine wl_pure Tryz.hT rfl rfl rfl ?_
          refine wl_nil ?_
          refine zE ?_
          refine zA ?_
          refine zB ?_
          iterate 2 refine wl_pure Tryz.hT rfl rfl rfl ?_
          refine wl_nil ?_
          refine zE ?_
          refine zS rfl ?_
          refine zI ?_
          refine zN ?_
          refine zE ?_
          refine zB ?_
          iterate 2 refine wl_pure Tryz.hT rfl rfl rfl ?_
          refine wl_nil ?_
          exact ne_loop 1 (by decide) (by decide) ⟨rfl, rfl, rfl, rfl, rfl, trivial⟩ [] rfl
        · refine zA ?_
          refine zB ?_
          refine wl_pure Tryz.hT rfl rfl rfl ?_
          refine wl_nil ?_
          refine zE ?_
          refine zA ?_
          refine zR rfl ?_
          refine zI ?_
          refine zE ?_
          refine zA ?_
          refine zH ?_
          refine zA ?_
          refine zB ?_
          refine wl_indexAddr Tryz.hT rfl rfl rfl rfl rfl rfl rfl (by omega) (by omega) ?_
          refine wl_loadBx 1 Tryz.hT rfl rfl rfl rfl rfl rfl rfl rfl ?_
          refine wl_pure Tryz.hT rfl rfl rfl ?_
          refine wl_nil ?_
          refine zE ?_
          refine zA ?_
          refine zB ?_
          refine wl_pure Tryz.hT rfl rfl rfl ?_
          refine wl_call1 rfl rfl rfl rfl rfl rfl (by kernel_rfl) (fun W hp => fnumber_gives f.st hst W (hv.hp hp) (ht.hp hp)) ?_
          refine wl_pure Tryz.hT rfl rfl rfl ?_
          refine wl_nil ?_
          refine zE ?_
          refine zA ?_
          refine zB ?_
          iterate 2 refine wl_pure Tryz.hT rfl rfl rfl ?_
          refine wl_nil ?_
          refine zE ?_
          refine zS rfl ?_
          refine zI ?_
          refine zN ?_
          refine zE ?_
          refine zB ?_
          iterate 2 refine wl_pure Tryz.hT rfl rfl rfl ?_
          refine wl_nil ?_
          exact ne_loop 2 (by decide) (by decide) ⟨rfl, rfl, rfl, rfl, rfl, trivial⟩ [] rfl
        · refine zA ?_
          refine zB ?_
          refine wl_pure Tryz.hT rfl rfl rfl ?_
          refine wl_nil ?_
          refine zE ?_
          refine zA ?_
          refine zS rfl ?_
          refine zJ ?_
          iterate 2 refine zK ?_
          refine zL ?_
          exact ne_cut () trivial ⟨rfl, rfl, trivial⟩ _ rfl
      · intro _ _
        refine wc_seq ?_
        refine zA ?_
        refine zB ?_
        refine wl_pure Tryz.hT rfl rfl rfl ?_
        refine wl_loadBx 0 Tryz.hT rfl rfl rfl rfl rfl rfl rfl rfl ?_
        refine wl_call1 rfl rfl rfl rfl rfl rfl (by kernel_rfl) (fun W _ => (prefix_gives (numS f.sp) [45] W).cast (by rw [hasPrefix_numS, decide_eq_false (by omega)])) ?_
        refine wl_nil ?_
        refine zE ?_
        refine zS rfl ?_
        refine zI ?_
        refine zE ?_
        refine zA ?_
        refine zB ?_
        refine wl_pure Tryz.hT rfl rfl rfl ?_
        refine wl_nil ?_
        refine zE ?_
        refine zO ?_
        exact ne_ret1 Tryz.hT rfl (.tmp rfl) () rfl trivial fun W _ => NewBx.nil _ _
end Go.Proofs.YteaiopkopifijaaGreatDoor
namespace Go.Proofs.YteaiopkopifijaaGreatDoor
open Go Go.RowKit Go.Am Go.Lib
set_option maxRecDepth 10000
-- BOXES 4
set_option maxHeartbeats 8000000 in
theorem fstart_gives (f : FrP) (h : f.OK) (q : Rat) (hq : szQ q 36) (b : Nat) (W : World) (hv : MaxP W) (ht : TabP W) (hrow : RowAt W b 0 [str (numS q)]) :
    CallsR Tryz.prog 53 #[frV f, .slice (some ⟨b, 0, none⟩) 1 1] W (fun _ : Unit => .int .i64 0) (fun _ => True) (fun _ => []) := by
  refine calls_enter (args := [frV f, .slice (some ⟨b, 0, none⟩) 1 1]) Tryz.func53 rfl rfl rfl ?_
  refine zA ?_
  refine zB ?_
  (refine wl_box rfl rfl rfl rfl ?_; intro)
  refine wl_pure Tryz.hT rfl rfl rfl ?_
  refine wl_nil ?_
  rename_i b2
  refine zE ?_
  iterate 2 refine zA ?_
  refine zB ?_
  refine wl_loadBx 0 Tryz.hT rfl rfl rfl rfl rfl rfl rfl rfl ?_
  refine wl_call1 rfl rfl rfl rfl rfl rfl (by kernel_rfl) (fun W hp => fcheck_gives f h W (hv.hp hp) (ht.hp hp)) ?_
  refine wl_pure Tryz.hT rfl rfl rfl ?_
  refine wl_nil ?_
  refine zE ?_
  refine zS rfl ?_
  refine zI ?_
  refine zE ?_
  iterate 2 refine zA ?_
  refine zB ?_
  iterate 3 refine wl_pure Tryz.hT rfl rfl rfl ?_
  refine wl_nil ?_
  refine ne_then ?_
  refine wc_cutS (X := Unit) (fun _ => [(4, .int .i64 0)]) (fun _ => []) (fun _ => True) ?_ ?_
  · refine wc_block ?_
    refine wc_loop (X := Nat) (fun i => [(4, .int .i64 0), (11, .slice (some ⟨b, 0, none⟩) 1 1), (12, .int .i64 1), (13, .int .i64 (i : Nat))]) (fun _ => []) (fun i => i ≤ 1) (fun i => 1 - i) 0 (Nat.zero_le _) ⟨rfl, rfl, rfl, rfl, trivial⟩ _ rfl ?_
    intro i hi
    have hi : i = 0 ∨ i = 1 := by have : i ≤ 1 := hi; omega
    rcases hi with rfl | rfl
    · refine zA ?_
      refine zB ?_
      refine wl_pure Tryz.hT rfl rfl rfl ?_
      refine wl_nil ?_
      refine zE ?_
      refine zA ?_
      refine zR rfl ?_
      refine zI ?_
      refine zE ?_
      refine zA ?_
      refine zH ?_
      refine zA ?_
      refine zB ?_
      refine wl_indexAddr Tryz.hT rfl rfl rfl rfl rfl rfl rfl (by omega) (by omega) ?_
      refine wl_load rfl rfl rfl rfl (fun W hp => RowAt.load 0 Tryz.hT rfl ((fun W hp => hrow.hp hp) W hp) rfl) ?_
      refine wl_pure Tryz.hT rfl rfl rfl ?_
      refine wl_nil ?_
      refine zE ?_
      refine zA ?_
      refine zB ?_
      refine wl_pure Tryz.hT rfl rfl rfl ?_
      refine wl_call1 rfl rfl rfl rfl rfl rfl (by kernel_rfl) (fun W hp => fnumber_gives q hq W (hv.hp hp) (ht.hp hp)) ?_
      refine wl_pure Tryz.hT rfl rfl rfl ?_
      refine wl_nil ?_
      refine zE ?_
      refine zA ?_
      refine zB ?_
      iterate 2 refine wl_pure Tryz.hT rfl rfl rfl ?_
      refine wl_nil ?_
      refine zE ?_
      refine zS rfl ?_
      refine zI ?_
      refine zN ?_
      refine zE ?_
      refine zB ?_
      iterate 2 refine wl_pure Tryz.hT rfl rfl rfl ?_
      refine wl_nil ?_
      exact ne_loop 1 (by decide) (by decide) ⟨rfl, rfl, rfl, rfl, trivial⟩ [] rfl
    · refine zA ?_
      refine zB ?_
      refine wl_pure Tryz.hT rfl rfl rfl ?_
      refine wl_nil ?_
      refine zE ?_
      refine zA ?_
      refine zS rfl ?_
      refine zJ ?_
      iterate 2 refine zK ?_
      refine zL ?_
      exact ne_cut () trivial ⟨rfl, trivial⟩ _ rfl
  · intro _ _
    refine zA ?_
    refine zB ?_
    refine wl_pure Tryz.hT rfl rfl rfl ?_
    refine wl_nil ?_
    refine zE ?_
    refine zO ?_
    exact ne_ret1 Tryz.hT rfl (.tmp rfl) () rfl trivial fun W _ => NewBx.nil _ _
theorem szQ_int {z : Int} {k : Nat} (h : z.natAbs < 10 ^ k) (hk : 1 < 10 ^ k) : szQ (z : Rat) k := ⟨by rw [Rat.num_intCast]; exact h, by rw [Rat.den_intCast]; exact hk⟩
def FrP.vel (f : FrP) : Rat := (f.hd : Rat) * f.sp
def FrP.at (f : FrP) (t : Rat) : Rat := if t ≤ f.st then (f.pos : Rat) else (f.pos : Rat) + f.vel * (t - f.st)
theorem FrP.OK.hdz {f : FrP} (h : f.OK) : szQ (f.hd : Rat) 1 := szQ_int (by rcases h.hd with e | e <;> rw [e] <;> decide) (by decide)
theorem FrP.OK.posz {f : FrP} (h : f.OK) : szQ (f.pos : Rat) 5 := szQ_int (by have := h.p0; have := h.p1; show f.pos.natAbs < 100000; omega) (by decide)
theorem FrP.OK.pos64 {f : FrP} (h : f.OK) : -9223372036854775808 ≤ f.pos ∧ f.pos ≤ 9223372036854775807 := by have := h.p0; have := h.p1; omega
theorem FrP.OK.hd64 {f : FrP} (h : f.OK) : -9223372036854775808 ≤ f.hd ∧ f.hd ≤ 9223372036854775807 := by rcases h.hd with e | e <;> omega
set_option maxHeartbeats 8000000 in
theorem fvelocity_gives (f : FrP) (h : f.OK) (W : World) (hv : MaxP W) (ht : TabP W) :
    CallsR Tryz.prog 104 #[frV f] W (fun _ : Unit => str (numS f.vel)) (fun _ => True) (fun _ => []) := by
  have hz := sz2 h.hdz h.sp (by decide)
  refine calls_enter (args := [frV f]) Tryz.func104 rfl rfl rfl ?_
  refine zA ?_
  refine zB ?_
  (refine wl_box rfl rfl rfl rfl ?_; intro)
  refine wl_pure Tryz.hT rfl rfl rfl ?_
  refine wl_nil ?_
  rename_i b1
  refine zE ?_
  refine zA ?_
  refine zT Tryz.mixed (by kernel_rfl) ?_
  refine wq_pure Tryz.hT rfl rfl rfl ?_
  refine wq_loadBx 0 Tryz.hT rfl rfl rfl rfl rfl rfl rfl rfl ?_
  refine wq_call1 rfl rfl rfl rfl rfl rfl (by kernel_rfl) (fun W hp => fwhole_gives f.hd h.hd64 W (ht.hp hp)) ?_
  refine wq_pure Tryz.hT rfl rfl rfl ?_
  refine wq_loadBx 0 Tryz.hT rfl rfl rfl rfl rfl rfl rfl rfl ?_
  refine wq_call1 rfl rfl rfl rfl rfl rfl (by kernel_rfl) (fun W hp => fmul_gives (f.hd : Rat) f.sp hz W (hv.hp hp) (ht.hp hp)) ?_
  refine wq_pure Tryz.hT rfl rfl rfl ?_
  refine wq_nil ?_
  refine wl_nil ?_
  refine zE ?_
  refine zO ?_
  exact ne_ret1 Tryz.hT rfl (.tmp rfl) () rfl trivial fun W _ => NewBx.nil _ _
theorem cmpQ_le (p q : Rat) : (decide (cmpQ p q ≤ 0)) = decide (p ≤ q) := by
  unfold cmpQ
  refine decide_eq_decide.2 ?_
  by_cases h : p < q
  · rw [if_pos h]; exact ⟨fun _ => Rat.le_of_lt h, fun _ => by decide⟩
  · rw [if_neg h]
    by_cases e : p = q
    · rw [if_pos e]; exact ⟨fun _ => by rw [e]; exact Rat.le_refl, fun _ => by decide⟩
    · rw [if_neg e]
      exact ⟨fun h => absurd h (by decide), fun h2 => absurd (Rat.lt_of_le_of_ne h2 e) h⟩
set_option maxHeartbeats 8000000 in
theorem fpositionG_gives (f : FrP) (h : f.OK) (t : Rat) (a b k : Nat) (hs : szQ f.sp a) (hb : szQ f.st b) (hz : szQ t k) (hk : a + b + k + 9 ≤ 300) (W : World) (hv : MaxP W) (ht : TabP W) :
    CallsR Tryz.prog 48 #[frV f, str (numS t)] W (fun _ : Unit => str (numS (f.at t))) (fun _ => True) (fun _ => []) := by
  have z1 := sz2 hz hb (by omega)
  have z2 := hz.sub hb
  have zv : szQ f.vel (1 + a) := h.hdz.mul hs
  have z3 := sz2 zv z2 (by omega)
  have z4 := zv.mul z2
  have z5 := sz2 h.posz z4 (by omega)
  refine calls_enter (args := [frV f, str (numS t)]) Tryz.func48 rfl rfl rfl ?_
  refine zA ?_
  refine zB ?_
  (refine wl_box rfl rfl rfl rfl ?_; intro)
  refine wl_pure Tryz.hT rfl rfl rfl ?_
  refine wl_nil ?_
  rename_i b2
  refine zE ?_
  iterate 2 refine zA ?_
  refine zB ?_
  iterate 2 refine wl_pure Tryz.hT rfl rfl rfl ?_
  refine wl_loadBx 0 Tryz.hT rfl rfl rfl rfl rfl rfl rfl rfl ?_
  refine wl_call1 rfl rfl rfl rfl rfl rfl (by kernel_rfl) (fun W hp => fcompare_gives t f.st z1 W (hv.hp hp) (ht.hp hp)) ?_
  refine wl_pure Tryz.hT rfl rfl rfl ?_
  refine wl_upd 9 (.bool (decide (t ≤ f.st))) rfl (congrArg Value.bool (cmpQ_le t f.st)) ?_
  refine wl_nil ?_
  refine zE ?_
  refine wc_cond rfl (fun hc => ?_) (fun hc => ?_)
  · have hc := of_decide_eq_true hc
    refine zA ?_
    refine zB ?_
    refine wl_pure Tryz.hT rfl rfl rfl ?_
    refine wl_loadBx 0 Tryz.hT rfl rfl rfl rfl rfl rfl rfl rfl ?_
    refine wl_call1 rfl rfl rfl rfl rfl rfl (by kernel_rfl) (fun W hp => fwhole_gives f.pos h.pos64 W (ht.hp hp)) ?_
    refine wl_pure Tryz.hT rfl rfl rfl ?_
    refine wl_nil ?_
    refine zE ?_
    refine zO ?_
    refine zP ?_
    exact ne_ret1 Tryz.hT rfl (.tmp rfl) () (by rw [FrP.at, if_pos hc]) trivial fun W _ => NewBx.nil _ _
  · have hc := of_decide_eq_false hc
    refine zI ?_
    refine zE ?_
    refine zA ?_
    refine zT Tryz.mixed (by kernel_rfl) ?_
    refine wq_pure Tryz.hT rfl rfl rfl ?_
    refine wq_loadBx 0 Tryz.hT rfl rfl rfl rfl rfl rfl rfl rfl ?_
    refine wq_call1 rfl rfl rfl rfl rfl rfl (by kernel_rfl) (fun W hp => fwhole_gives f.pos h.pos64 W (ht.hp hp)) ?_
    refine wq_loadBx 0 Tryz.hT rfl rfl rfl rfl rfl rfl rfl rfl ?_
    refine wq_call1 rfl rfl rfl rfl rfl rfl (by kernel_rfl) (fun W hp => fvelocity_gives f h W (hv.hp hp) (ht.hp hp)) ?_
    iterate 2 refine wq_pure Tryz.hT rfl rfl rfl ?_
    refine wq_loadBx 0 Tryz.hT rfl rfl rfl rfl rfl rfl rfl rfl ?_
    refine wq_call1 rfl rfl rfl rfl rfl rfl (by kernel_rfl) (fun W hp => fsub_gives t f.st z1 W (hv.hp hp) (ht.hp hp)) ?_
    refine wq_call1 rfl rfl rfl rfl rfl rfl (by kernel_rfl) (fun W hp => fmul_gives f.vel (t - f.st) z3 W (hv.hp hp) (ht.hp hp)) ?_
    refine wq_call1 rfl rfl rfl rfl rfl rfl (by kernel_rfl) (fun W hp => fadd_gives (f.pos : Rat) (f.vel * (t - f.st)) z5 W (hv.hp hp) (ht.hp hp)) ?_
    refine wq_pure Tryz.hT rfl rfl rfl ?_
    refine wq_nil ?_
    refine wl_nil ?_
    refine zE ?_
    refine zO ?_
    exact ne_ret1 Tryz.hT rfl (.tmp rfl) () (by rw [FrP.at, if_neg hc]) trivial fun W _ => NewBx.nil _ _
theorem fposition_gives (f : FrP) (h : f.OK) (t : Rat) (hz : szQ t 36) (W : World) (hv : MaxP W) (ht : TabP W) :
    CallsR Tryz.prog 48 #[frV f, str (numS t)] W (fun _ : Unit => str (numS (f.at t))) (fun _ => True) (fun _ => []) := fpositionG_gives f h t 36 36 36 h.sp h.st hz (by decide) W hv ht
end Go.Proofs.YteaiopkopifijaaGreatDoor
namespace Go.Proofs.YteaiopkopifijaaGreatDoor
open Go Go.RowKit Go.Am Go.Lib
set_option maxRecDepth 10000
-- BOXES 4
set_option maxHeartbeats 8000000 in
theorem fPos_gives (f : FrP) (h : f.OK) (t : Rat) (hz : szQ t 36) (W : World) (hv : MaxP W) (ht : TabP W) :
    CallsR Tryz.prog 18 #[frV f, str (numS t)] W (fun _ : Unit => .tuple #[str (numS (f.at t)), .int .i64 0]) (fun _ => True) (fun _ => []) := by
  refine calls_enter (args := [frV f, str (numS t)]) Tryz.func18 rfl rfl rfl ?_
  refine zA ?_
  refine zB ?_
  (refine wl_box rfl rfl rfl rfl ?_; intro)
  iterate 2 refine wl_pure Tryz.hT rfl rfl rfl ?_
  refine wl_nil ?_
  rename_i b2
  refine zE ?_
  iterate 2 refine zA ?_
  refine zB ?_
  refine wl_loadBx 0 Tryz.hT rfl rfl rfl rfl rfl rfl rfl rfl ?_
  refine wl_pure Tryz.hT rfl rfl rfl ?_
  refine wl_buildRowZ Tryz.hZ Tryz.hT rfl rfl rfl rfl rfl rfl rfl rfl rfl rfl rfl fun bS => ?_
  refine wl_call1 rfl rfl rfl rfl rfl rfl (by kernel_rfl) (fun W hp => fstart_gives f h t hz bS W (hv.hp hp) (ht.hp hp) (RowAt.of_bx hp 1 rfl rfl)) ?_
  refine wl_pure Tryz.hT rfl rfl rfl ?_
  refine wl_nil ?_
  refine zE ?_
  refine zA ?_
  refine zB ?_
  iterate 2 refine wl_pure Tryz.hT rfl rfl rfl ?_
  refine wl_nil ?_
  refine zE ?_
  refine zS rfl ?_
  refine zI ?_
  refine zE ?_
  refine zA ?_
  refine zB ?_
  refine wl_loadBx 0 Tryz.hT rfl rfl rfl rfl rfl rfl rfl rfl ?_
  refine wl_pure Tryz.hT rfl rfl rfl ?_
  refine wl_call1 rfl rfl rfl rfl rfl rfl (by kernel_rfl) (fun W hp => fposition_gives f h t hz W (hv.hp hp) (ht.hp hp)) ?_
  iterate 2 refine wl_pure Tryz.hT rfl rfl rfl ?_
  refine wl_nil ?_
  refine zE ?_
  refine zO ?_
  exact ne_ret2 Tryz.hT rfl (.tmp rfl) (.tmp rfl) () rfl trivial fun W _ => NewBx.nil _ _
theorem numS_zero : numS 0 = [48] := numS_0.2 rfl
theorem cmpQ_lt0 (p q : Rat) : (decide (cmpQ p q < 0)) = decide (p < q) := by
  unfold cmpQ
  refine decide_eq_decide.2 ?_
  by_cases h : p < q
  · rw [if_pos h]; exact ⟨fun _ => h, fun _ => by decide⟩
  · rw [if_neg h]
    by_cases e : p = q
    · rw [if_pos e]; exact ⟨fun h2 => absurd h2 (by decide), fun h2 => absurd h2 h⟩
    · rw [if_neg e]
      exact ⟨fun h => absurd h (by decide), fun h2 => absurd h2 h⟩
/-- What Plane gives: error 8 at speed 0. -/
def FrP.slope (f : FrP) : Rat := (f.hd : Rat) / f.sp
def FrP.base (f : FrP) : Rat := f.st - f.slope * (f.pos : Rat)
def FrP.plane (f : FrP) : Value := if f.sp.num = 0 then .tuple #[.agg #[str [], str [], str []], .int .i64 8] else
  .tuple #[if f.ax then .agg #[str (numS f.slope), str [48], str (numS f.base)] else .agg #[str [48], str (numS f.slope), str (numS f.base)], .int .i64 0]
set_option maxHeartbeats 8000000 in
theorem fPlane_gives (f : FrP) (h : f.OK) (W : World) (hv : MaxP W) (ht : TabP W) :
    CallsR Tryz.prog 32 #[frV f] W (fun _ : Unit => f.plane) (fun _ => True) (fun _ => []) := by
  have z1 := sz2 h.hdz h.sp (by decide)
  refine calls_enter (args := [frV f]) Tryz.func32 rfl rfl rfl ?_
  refine zA ?_
  refine zB ?_
  (refine wl_box rfl rfl rfl rfl ?_; intro)
  (refine wl_allocZ Tryz.hZ rfl rfl rfl rfl ?_; intro)
  refine wl_pure Tryz.hT rfl rfl rfl ?_
  refine wl_nil ?_
  rename_i b1 b2
  refine zE ?_
  iterate 2 refine zA ?_
  refine zB ?_
  refine wl_loadBx 0 Tryz.hT rfl rfl rfl rfl rfl rfl rfl rfl ?_
  refine wl_call1 rfl rfl rfl rfl rfl rfl (by kernel_rfl) (fun W hp => fcheck_gives f h W (hv.hp hp) (ht.hp hp)) ?_
  refine wl_pure Tryz.hT rfl rfl rfl ?_
  refine wl_nil ?_
  refine zE ?_
  refine zS rfl ?_
  refine zI ?_
  refine zE ?_
  iterate 2 refine zA ?_
  refine zB ?_
  refine wl_pure Tryz.hT rfl rfl rfl ?_
  refine wl_loadBx 0 Tryz.hT rfl rfl rfl rfl rfl rfl rfl rfl ?_
  refine wl_pure Tryz.hT rfl rfl rfl ?_
  by_cases h0 : f.sp.num = 0
  · refine wl_upd 12 (.bool true) rfl (congrArg Value.bool ((strEqB _ [48]).trans (decide_eq_true (numS_0.2 h0)))) ?_
    refine wl_nil ?_
    refine zE ?_
    refine zR rfl ?_
    refine zA ?_
    refine zB ?_
    refine wl_buildZ Tryz.hZ Tryz.hT rfl rfl rfl rfl rfl rfl rfl rfl ?_
    refine wl_storeBx 1 Tryz.hT rfl rfl rfl rfl rfl rfl rfl rfl rfl rfl rfl ?_
    refine wl_pure Tryz.hT rfl rfl rfl ?_
    refine wl_nil ?_
    refine zE ?_
    refine zO ?_
    refine zP ?_
    exact ne_ret2 Tryz.hT rfl (.cell 1 rfl rfl rfl rfl rfl) (.tmp rfl) () (by rw [FrP.plane, if_pos h0]; rfl) trivial fun W _ => NewBx.nil _ _
  · have z2 := h.hdz.div h.sp h0
    have z3 := sz2 z2 h.posz (by decide)
    have z4 := z2.mul h.posz
    have z5 := sz2 h.st z4 (by decide)
    have hval : f.plane = .tuple #[if f.ax then .agg #[str (numS f.slope), str [48], str (numS f.base)] else .agg #[str [48], str (numS f.slope), str (numS f.base)], .int .i64 0] := if_neg h0
    refine wl_upd 12 (.bool false) rfl (congrArg Value.bool ((strEqB _ [48]).trans (decide_eq_false fun e => h0 (numS_0.1 e)))) ?_
    refine wl_nil ?_
    refine zE ?_
    refine zS rfl ?_
    refine zI ?_
    refine zE ?_
    refine zA ?_
    refine zT Tryz.mixed (by kernel_rfl) ?_
    refine wq_pure Tryz.hT rfl rfl rfl ?_
    refine wq_loadBx 0 Tryz.hT rfl rfl rfl rfl rfl rfl rfl rfl ?_
    refine wq_call1 rfl rfl rfl rfl rfl rfl (by kernel_rfl) (fun W hp => fwhole_gives f.hd h.hd64 W (ht.hp hp)) ?_
    refine wq_pure Tryz.hT rfl rfl rfl ?_
    refine wq_loadBx 0 Tryz.hT rfl rfl rfl rfl rfl rfl rfl rfl ?_
    refine wq_call1 rfl rfl rfl rfl rfl rfl (by kernel_rfl) (fun W hp => fdiv_gives (f.hd : Rat) f.sp z1 h0 W (hv.hp hp) (ht.hp hp)) ?_
    refine wq_pure Tryz.hT rfl rfl rfl ?_
    refine wq_nil ?_
    refine wl_nil ?_
    refine zE ?_
    refine wc_seq ?_
    refine wc_lateY (X := Nat) [true, true, true, true, true, true, true, true, true, true, false, false] (fun b => [(1, selfP b1), (2, selfP b2), (3, .int .i64 0), (5, selfP b)]) (fun b => [⟨b1, 30, [.bool f.ax, .int .i64 f.pos, .int .i64 f.hd, str (numS f.sp), str (numS f.st)], true, none⟩, ⟨b2, 57, [str [], str [], str []], true, none⟩, ⟨b, 57, [str [48], str (numS f.slope), str (numS f.base)], true, none⟩])
      2 [⟨b1, 30, [.bool f.ax, .int .i64 f.pos, .int .i64 f.hd, str (numS f.sp), str (numS f.st)], true, none⟩, ⟨b2, 57, [str [], str [], str []], true, none⟩] Tryz.mixed (by kernel_rfl) ?_ ?_
    · refine wq_pure Tryz.hT rfl rfl rfl ?_
      refine wq_pure Tryz.hT rfl rfl rfl ?_
      refine wq_loadBx 0 Tryz.hT rfl rfl rfl rfl rfl rfl rfl rfl ?_
      iterate 2 refine wq_pure Tryz.hT rfl rfl rfl ?_
      refine wq_loadBx 0 Tryz.hT rfl rfl rfl rfl rfl rfl rfl rfl ?_
      refine wq_call1 rfl rfl rfl rfl rfl rfl (by kernel_rfl) (fun W hp => fwhole_gives f.pos h.pos64 W (ht.hp hp)) ?_
      refine wq_call1 rfl rfl rfl rfl rfl rfl (by kernel_rfl) (fun W hp => fmul_gives f.slope (f.pos : Rat) z3 W (hv.hp hp) (ht.hp hp)) ?_
      refine wq_call1 rfl rfl rfl rfl rfl rfl (by kernel_rfl) (fun W hp => fsub_gives f.st (f.slope * (f.pos : Rat)) z5 W (hv.hp hp) (ht.hp hp)) ?_
      refine wq_buildZ Tryz.hZ Tryz.hT rfl rfl rfl rfl rfl rfl rfl rfl ?_
      refine wq_wt ?_
      refine wt_step rfl rfl (by ((repeat (first | refine Weak.same ?_ | refine Weak.off rfl ?_)); exact trivial)) ?_
      refine RS.cons ?_ (RS.nil)
      refine wl_allocZ Tryz.hZ rfl rfl rfl rfl ?_; intro b
      refine wl_nil ?_
      refine ne_wt ?_
      refine wt_step rfl rfl (by ((repeat (first | refine Weak.same ?_ | refine Weak.off rfl ?_)); exact trivial)) ?_
      refine RS.cons ?_ (RS.nil)
      refine wl_storeBx 2 Tryz.hT rfl rfl rfl rfl rfl rfl rfl rfl rfl rfl rfl ?_
      refine wl_nil ?_
      refine ne_wt ?_
      refine wt_done rfl (by ((repeat (first | refine Weak.same ?_ | refine Weak.off rfl ?_)); exact trivial)) ?_
      exact ne_late b ⟨rfl, rfl, rfl, rfl, trivial⟩ [0, 1, 2] (by decide) rfl
    intro b5
    refine zE ?_
    iterate 2 refine zA ?_
    refine zB ?_
    refine wl_pure Tryz.hT rfl rfl rfl ?_
    refine wl_loadBx 0 Tryz.hT rfl rfl rfl rfl rfl rfl rfl rfl ?_
    refine wl_nil ?_
    refine zE ?_
    refine wc_cond rfl (fun hax => ?_) (fun hax => ?_)
    · rw [if_pos hax] at hval
      refine zB ?_
      refine wl_pure Tryz.hT rfl rfl rfl ?_
      refine wl_loadBx 2 Tryz.hT rfl rfl rfl rfl rfl rfl rfl rfl ?_
      refine wl_pure Tryz.hT rfl rfl rfl ?_
      refine wl_loadBx 2 Tryz.hT rfl rfl rfl rfl rfl rfl rfl rfl ?_
      refine wl_pure Tryz.hT rfl rfl rfl ?_
      refine wl_storeBx 2 Tryz.hT rfl rfl rfl rfl rfl rfl rfl rfl rfl rfl rfl ?_
      refine wl_pure Tryz.hT rfl rfl rfl ?_
      refine wl_storeBx 2 Tryz.hT rfl rfl rfl rfl rfl rfl rfl rfl rfl rfl rfl ?_
      refine wl_nil ?_
      refine zE ?_
      refine zA ?_
      refine zB ?_
      refine wl_loadBx 2 Tryz.hT rfl rfl rfl rfl rfl rfl rfl rfl ?_
      refine wl_storeBx 1 Tryz.hT rfl rfl rfl rfl rfl rfl rfl rfl rfl rfl rfl ?_
      refine wl_pure Tryz.hT rfl rfl rfl ?_
      refine wl_nil ?_
      refine zE ?_
      refine zO ?_
      exact ne_ret2 Tryz.hT rfl (.cell 1 rfl rfl rfl rfl rfl) (.tmp rfl) () hval.symm trivial fun W _ => NewBx.nil _ _
    · rw [if_neg (by rw [hax]; decide)] at hval
      refine zI ?_
      refine zE ?_
      refine zA ?_
      refine zB ?_
      refine wl_loadBx 2 Tryz.hT rfl rfl rfl rfl rfl rfl rfl rfl ?_
      refine wl_storeBx 1 Tryz.hT rfl rfl rfl rfl rfl rfl rfl rfl rfl rfl rfl ?_
      refine wl_pure Tryz.hT rfl rfl rfl ?_
      refine wl_nil ?_
      refine zE ?_
      refine zO ?_
      exact ne_ret2 Tryz.hT rfl (.cell 1 rfl rfl rfl rfl rfl) (.tmp rfl) () hval.symm trivial fun W _ => NewBx.nil _ _
end Go.Proofs.YteaiopkopifijaaGreatDoor
namespace Go.Proofs.YteaiopkopifijaaGreatDoor
open Go Go.RowKit Go.Am Go.Lib
set_option maxRecDepth 10000
-- BOXES 4
def FrP.velB (f : FrP) (t : Rat) : Rat := if f.st < t then f.vel else 0
def FrP.velA (f : FrP) (t : Rat) : Rat := if t < f.st then 0 else f.vel
set_option maxHeartbeats 8000000 in
theorem fvelocities_gives (f : FrP) (h : f.OK) (t : Rat) (k : Nat) (hz : szQ t k) (hk : k + 36 + 1 ≤ 300) (W : World) (hv : MaxP W) (ht : TabP W) :
    CallsR Tryz.prog 47 #[frV f, str (numS t)] W (fun _ : Unit => .tuple #[str (numS (f.velB t)), str (numS (f.velA t))]) (fun _ => True) (fun _ => []) := by
  have z1 := sz2 hz h.st hk
  refine calls_enter (args := [frV f, str (numS t)]) Tryz.func47 rfl rfl rfl ?_
  repeat (first | refine zA ?_ | refine zB ?_ | refine zC ?_ | refine zD ?_ | refine zE ?_ | refine zF ?_ | refine zG ?_ | refine zH ?_ | refine zI ?_ | refine zJ ?_ | refine zK ?_ | refine zL ?_ | refine zM rfl ?_ | refine zN ?_ | refine zO ?_ | refine zP ?_ | refine zQ ?_ | refine zR rfl ?_ | refine zS rfl ?_ | refine zT Tryz.mixed (by kernel_rfl) ?_)
  (refine wl_box rfl rfl rfl rfl ?_; intro)
  iterate 2 refine wl_pure Tryz.hT rfl rfl rfl ?_
  refine wl_nil ?_
  rename_i b2
  repeat (first | refine zA ?_ | refine zB ?_ | refine zC ?_ | refine zD ?_ | refine zE ?_ | refine zF ?_ | refine zG ?_ | refine zH ?_ | refine zI ?_ | refine zJ ?_ | refine zK ?_ | refine zL ?_ | refine zM rfl ?_ | refine zN ?_ | refine zO ?_ | refine zP ?_ | refine zQ ?_ | refine zR rfl ?_ | refine zS rfl ?_ | refine zT Tryz.mixed (by kernel_rfl) ?_)
  iterate 2 refine wl_pure Tryz.hT rfl rfl rfl ?_
  (first | refine wl_loadBx 0 Tryz.hT rfl rfl rfl rfl rfl rfl rfl rfl ?_ | refine wl_loadBx 1 Tryz.hT rfl rfl rfl rfl rfl rfl rfl rfl ?_ | refine wl_loadBx 2 Tryz.hT rfl rfl rfl rfl rfl rfl rfl rfl ?_ | refine wl_loadBx 3 Tryz.hT rfl rfl rfl rfl rfl rfl rfl rfl ?_)
  by_cases c1 : t < f.st
  · have n1 : ¬ f.st < t := fun e => Rat.not_le.2 c1 (Rat.le_of_lt e)
    refine wl_call1 rfl rfl rfl rfl rfl rfl (by kernel_rfl) (fun W hp => (fcompare_gives t f.st z1 W (hv.hp hp) (ht.hp hp)).cast (by rw [cmpQ, if_pos c1])) ?_
    refine wl_nil ?_
    repeat (first | refine zA ?_ | refine zB ?_ | refine zC ?_ | refine zD ?_ | refine zE ?_ | refine zF ?_ | refine zG ?_ | refine zH ?_ | refine zI ?_ | refine zJ ?_ | refine zK ?_ | refine zL ?_ | refine zM rfl ?_ | refine zN ?_ | refine zO ?_ | refine zP ?_ | refine zQ ?_ | refine zR rfl ?_ | refine zS rfl ?_ | refine zT Tryz.mixed (by kernel_rfl) ?_)
    iterate 2 refine wl_pure Tryz.hT rfl rfl rfl ?_
    refine wl_nil ?_
    repeat (first | refine zA ?_ | refine zB ?_ | refine zC ?_ | refine zD ?_ | refine zE ?_ | refine zF ?_ | refine zG ?_ | refine zH ?_ | refine zI ?_ | refine zJ ?_ | refine zK ?_ | refine zL ?_ | refine zM rfl ?_ | refine zN ?_ | refine zO ?_ | refine zP ?_ | refine zQ ?_ | refine zR rfl ?_ | refine zS rfl ?_ | refine zT Tryz.mixed (by kernel_rfl) ?_)
    iterate 2 refine wl_pure Tryz.hT rfl rfl rfl ?_
    refine wl_nil ?_
    repeat (first | refine zA ?_ | refine zB ?_ | refine zC ?_ | refine zD ?_ | refine zE ?_ | refine zF ?_ | refine zG ?_ | refine zH ?_ | refine zI ?_ | refine zJ ?_ | refine zK ?_ | refine zL ?_ | refine zM rfl ?_ | refine zN ?_ | refine zO ?_ | refine zP ?_ | refine zQ ?_ | refine zR rfl ?_ | refine zS rfl ?_ | refine zT Tryz.mixed (by kernel_rfl) ?_)
    exact ne_ret2 Tryz.hT rfl (.tmp rfl) (.tmp rfl) () (by rw [FrP.velB, FrP.velA, if_neg n1, if_pos c1, numS_zero]) trivial fun W _ => NewBx.nil _ _
  · by_cases c2 : t = f.st
    · have n1 : ¬ f.st < t := fun e => by rw [c2] at e; exact Rat.lt_irrefl e
      refine wl_call1 rfl rfl rfl rfl rfl rfl (by kernel_rfl) (fun W hp => (fcompare_gives t f.st z1 W (hv.hp hp) (ht.hp hp)).cast (by rw [cmpQ, if_neg c1, if_pos c2])) ?_
      refine wl_nil ?_
      repeat (first | refine zA ?_ | refine zB ?_ | refine zC ?_ | refine zD ?_ | refine zE ?_ | refine zF ?_ | refine zG ?_ | refine zH ?_ | refine zI ?_ | refine zJ ?_ | refine zK ?_ | refine zL ?_ | refine zM rfl ?_ | refine zN ?_ | refine zO ?_ | refine zP ?_ | refine zQ ?_ | refine zR rfl ?_ | refine zS rfl ?_ | refine zT Tryz.mixed (by kernel_rfl) ?_)
      iterate 2 refine wl_pure Tryz.hT rfl rfl rfl ?_
      refine wl_nil ?_
      repeat (first | refine zA ?_ | refine zB ?_ | refine zC ?_ | refine zD ?_ | refine zE ?_ | refine zF ?_ | refine zG ?_ | refine zH ?_ | refine zI ?_ | refine zJ ?_ | refine zK ?_ | refine zL ?_ | refine zM rfl ?_ | refine zN ?_ | refine zO ?_ | refine zP ?_ | refine zQ ?_ | refine zR rfl ?_ | refine zS rfl ?_ | refine zT Tryz.mixed (by kernel_rfl) ?_)
      iterate 2 refine wl_pure Tryz.hT rfl rfl rfl ?_
      refine wl_nil ?_
      repeat (first | refine zA ?_ | refine zB ?_ | refine zC ?_ | refine zD ?_ | refine zE ?_ | refine zF ?_ | refine zG ?_ | refine zH ?_ | refine zI ?_ | refine zJ ?_ | refine zK ?_ | refine zL ?_ | refine zM rfl ?_ | refine zN ?_ | refine zO ?_ | refine zP ?_ | refine zQ ?_ | refine zR rfl ?_ | refine zS rfl ?_ | refine zT Tryz.mixed (by kernel_rfl) ?_)
      (first | refine wl_loadBx 0 Tryz.hT rfl rfl rfl rfl rfl rfl rfl rfl ?_ | refine wl_loadBx 1 Tryz.hT rfl rfl rfl rfl rfl rfl rfl rfl ?_ | refine wl_loadBx 2 Tryz.hT rfl rfl rfl rfl rfl rfl rfl rfl ?_ | refine wl_loadBx 3 Tryz.hT rfl rfl rfl rfl rfl rfl rfl rfl ?_)
      refine wl_call1 rfl rfl rfl rfl rfl rfl (by kernel_rfl) (fun W hp => fvelocity_gives f h W (hv.hp hp) (ht.hp hp)) ?_
      iterate 2 refine wl_pure Tryz.hT rfl rfl rfl ?_
      refine wl_nil ?_
      repeat (first | refine zA ?_ | refine zB ?_ | refine zC ?_ | refine zD ?_ | refine zE ?_ | refine zF ?_ | refine zG ?_ | refine zH ?_ | refine zI ?_ | refine zJ ?_ | refine zK ?_ | refine zL ?_ | refine zM rfl ?_ | refine zN ?_ | refine zO ?_ | refine zP ?_ | refine zQ ?_ | refine zR rfl ?_ | refine zS rfl ?_ | refine zT Tryz.mixed (by kernel_rfl) ?_)
      exact ne_ret2 Tryz.hT rfl (.tmp rfl) (.tmp rfl) () (by rw [FrP.velB, FrP.velA, if_neg n1, if_neg c1, numS_zero]) trivial fun W _ => NewBx.nil _ _
    · have c3 : f.st < t := Decidable.byContradiction fun h => c2 (Rat.le_antisymm (Rat.not_lt.1 h) (Rat.not_lt.1 c1))
      refine wl_call1 rfl rfl rfl rfl rfl rfl (by kernel_rfl) (fun W hp => (fcompare_gives t f.st z1 W (hv.hp hp) (ht.hp hp)).cast (by rw [cmpQ, if_neg c1, if_neg c2])) ?_
      refine wl_nil ?_
      repeat (first | refine zA ?_ | refine zB ?_ | refine zC ?_ | refine zD ?_ | refine zE ?_ | refine zF ?_ | refine zG ?_ | refine zH ?_ | refine zI ?_ | refine zJ ?_ | refine zK ?_ | refine zL ?_ | refine zM rfl ?_ | refine zN ?_ | refine zO ?_ | refine zP ?_ | refine zQ ?_ | refine zR rfl ?_ | refine zS rfl ?_ | refine zT Tryz.mixed (by kernel_rfl) ?_)
      iterate 2 refine wl_pure Tryz.hT rfl rfl rfl ?_
      refine wl_nil ?_
      repeat (first | refine zA ?_ | refine zB ?_ | refine zC ?_ | refine zD ?_ | refine zE ?_ | refine zF ?_ | refine zG ?_ | refine zH ?_ | refine zI ?_ | refine zJ ?_ | refine zK ?_ | refine zL ?_ | refine zM rfl ?_ | refine zN ?_ | refine zO ?_ | refine zP ?_ | refine zQ ?_ | refine zR rfl ?_ | refine zS rfl ?_ | refine zT Tryz.mixed (by kernel_rfl) ?_)
      iterate 2 refine wl_pure Tryz.hT rfl rfl rfl ?_
      refine wl_nil ?_
      repeat (first | refine zA ?_ | refine zB ?_ | refine zC ?_ | refine zD ?_ | refine zE ?_ | refine zF ?_ | refine zG ?_ | refine zH ?_ | refine zI ?_ | refine zJ ?_ | refine zK ?_ | refine zL ?_ | refine zM rfl ?_ | refine zN ?_ | refine zO ?_ | refine zP ?_ | refine zQ ?_ | refine zR rfl ?_ | refine zS rfl ?_ | refine zT Tryz.mixed (by kernel_rfl) ?_)
      (first | refine wq_loadBx 0 Tryz.hT rfl rfl rfl rfl rfl rfl rfl rfl ?_ | refine wq_loadBx 1 Tryz.hT rfl rfl rfl rfl rfl rfl rfl rfl ?_ | refine wq_loadBx 2 Tryz.hT rfl rfl rfl rfl rfl rfl rfl rfl ?_ | refine wq_loadBx 3 Tryz.hT rfl rfl rfl rfl rfl rfl rfl rfl ?_)
      refine wq_call1 rfl rfl rfl rfl rfl rfl (by kernel_rfl) (fun W hp => fvelocity_gives f h W (hv.hp hp) (ht.hp hp)) ?_
      (first | refine wq_loadBx 0 Tryz.hT rfl rfl rfl rfl rfl rfl rfl rfl ?_ | refine wq_loadBx 1 Tryz.hT rfl rfl rfl rfl rfl rfl rfl rfl ?_ | refine wq_loadBx 2 Tryz.hT rfl rfl rfl rfl rfl rfl rfl rfl ?_ | refine wq_loadBx 3 Tryz.hT rfl rfl rfl rfl rfl rfl rfl rfl ?_)
      refine wq_call1 rfl rfl rfl rfl rfl rfl (by kernel_rfl) (fun W hp => fvelocity_gives f h W (hv.hp hp) (ht.hp hp)) ?_
      iterate 2 refine wq_pure Tryz.hT rfl rfl rfl ?_
      refine wq_nil ?_
      refine wl_nil ?_
      repeat (first | refine zA ?_ | refine zB ?_ | refine zC ?_ | refine zD ?_ | refine zE ?_ | refine zF ?_ | refine zG ?_ | refine zH ?_ | refine zI ?_ | refine zJ ?_ | refine zK ?_ | refine zL ?_ | refine zM rfl ?_ | refine zN ?_ | refine zO ?_ | refine zP ?_ | refine zQ ?_ | refine zR rfl ?_ | refine zS rfl ?_ | refine zT Tryz.mixed (by kernel_rfl) ?_)
      exact ne_ret2 Tryz.hT rfl (.tmp rfl) (.tmp rfl) () (by rw [FrP.velB, FrP.velA, if_pos c3, if_neg c1]) trivial fun W _ => NewBx.nil _ _
end Go.Proofs.YteaiopkopifijaaGreatDoor
namespace Go.Proofs.YteaiopkopifijaaGreatDoor
open Go Go.RowKit Go.Am Go.Lib
set_option maxRecDepth 10000
-- BOXES 2
/-- A row of strings. -/
def StrsP (W : World) (p : Option Addr) (l : List (List UInt8)) : Prop := l = [] ∨ ∃ b off, p = some ⟨b, off, none⟩ ∧ RowAt W b off (l.map str)
theorem StrsP.below {W W' : World} {p : Option Addr} {l : List (List UInt8)} {n : Nat} (h : StrsP W p l) (hn : W.heap.size ≤ n) (hb : Below n W W') : StrsP W' p l := by
  rcases h with h | ⟨b, off, h1, h2⟩
  · exact .inl h
  · exact .inr ⟨b, off, h1, h2.below hn hb⟩
theorem StrsP.hp {W0 W : World} {bxs : List Bx} {p : Option Addr} {l : List (List UInt8)} (h : StrsP W0 p l) (hp : Hp W0 bxs W) : StrsP W p l := h.below (Nat.le_refl _) hp.below
theorem StrsP.row {W : World} {p : Option Addr} {l : List (List UInt8)} (h : StrsP W p l) {i : Nat} (hi : i < l.length) : ∃ b off, p = some ⟨b, off, none⟩ ∧ ∀ k (hk : k < l.length), RowAt W b (off + k * 1) [str l[k]] := by
  rcases h with rfl | ⟨b, off, h1, h2⟩
  · exact absurd hi (Nat.not_lt_zero _)
  · refine ⟨b, off, h1, fun k hk => ⟨h2.lt, fun j u hu => ?_⟩⟩
    have hj : j = 0 := by have := (List.getElem?_eq_some_iff.1 hu).1; simpa using this
    subst hj
    have := h2.get k (str l[k]) (by rw [List.getElem?_map, List.getElem?_eq_getElem hk]; rfl)
    rw [Nat.mul_one, Nat.add_zero, this]
    simpa using hu
theorem strEqQ (a b : List UInt8) : ((⟨a.toArray⟩ : ByteArray).toList == (⟨b.toArray⟩ : ByteArray).toList) = decide (a = b) := strEqB a b
set_option maxHeartbeats 8000000 in
theorem sEqual_gives (W : World) (p q : Option Addr) (cap cap2 : Nat) (xs ys : List (List UInt8)) (hA : StrsP W p xs) (hB : StrsP W q ys) (hn : xs.length < 4611686018427387904) (hm : ys.length < 4611686018427387904) :
    CallsR Tryz.prog 14 #[slv p xs.length cap, slv q ys.length cap2] W (fun _ : Unit => .bool (decide (xs = ys))) (fun _ => True) (fun _ => []) := by
  refine calls_enter (args := [slv p xs.length cap, slv q ys.length cap2]) Tryz.func14 rfl rfl rfl ?_
  refine zA ?_
  refine zB ?_
  refine wl_pure Tryz.hT rfl rfl rfl ?_
  refine wl_nil ?_
  refine zE ?_
  iterate 2 refine zA ?_
  refine zB ?_
  iterate 5 refine wl_pure Tryz.hT rfl rfl rfl ?_
  by_cases hl : xs.length = ys.length
  · refine wl_upd 10 (.bool false) rfl (congrArg Value.bool (by rw [hl]; simp)) ?_
    refine wl_nil ?_
    refine zE ?_
    refine zS rfl ?_
    refine zI ?_
    refine zE ?_
    iterate 2 refine zA ?_
    refine zB ?_
    iterate 3 refine wl_pure Tryz.hT rfl rfl rfl ?_
    refine wl_nil ?_
    refine ne_then ?_
    refine wc_cutS (X := Unit) (fun _ => [(4, .bool false)]) (fun _ => []) (fun _ => xs = ys) ?_ ?_
    · refine wc_block ?_
      refine wc_loop (X := Nat) (fun i => [(0, slv p xs.length cap), (1, slv q ys.length cap2), (4, .bool false), (12, .int .i64 (xs.length : Nat)), (13, .int .i64 (i : Nat))]) (fun _ => []) (fun i => i ≤ xs.length ∧ xs.take i = ys.take i) (fun i => xs.length - i) 0 ⟨Nat.zero_le _, rfl⟩ ⟨rfl, rfl, rfl, rfl, rfl, trivial⟩ [] rfl ?_
      rintro i ⟨hi, he⟩
      refine zA ?_
      refine zB ?_
      refine wl_pure Tryz.hT rfl rfl rfl ?_
      by_cases hlt : i < xs.length
      · refine wl_upd 14 (.bool true) rfl (congrArg Value.bool (decide_eq_true (by omega))) ?_
        refine wl_nil ?_
        refine zE ?_
        refine zA ?_
        refine zR rfl ?_
        refine zI ?_
        refine zE ?_
        refine zA ?_
        refine zH ?_
        refine zA ?_
        refine zB ?_
        obtain ⟨pb, po, rfl, hr1⟩ := hA.row hlt
        obtain ⟨qb, qo, rfl, hr2⟩ := hB.row (show i < ys.length by omega)
        iterate 2 refine wl_pure Tryz.hT rfl rfl rfl ?_
        refine wl_nil ?_
        refine zE ?_
        refine zA ?_
        refine zT Tryz.mixed (by kernel_rfl) ?_
        iterate 2 refine wq_pure Tryz.hT rfl rfl rfl ?_
        refine wq_indexAddr Tryz.hT rfl rfl rfl rfl rfl rfl rfl (by omega) (by omega) ?_
        refine wq_load rfl rfl rfl rfl (fun W hp => RowAt.load 0 Tryz.hT rfl ((fun W hp => (hr1 i hlt).hp hp) W hp) rfl) ?_
        iterate 2 refine wq_pure Tryz.hT rfl rfl rfl ?_
        refine wq_indexAddr Tryz.hT rfl rfl rfl rfl rfl rfl rfl (by omega) (by omega) ?_
        refine wq_load rfl rfl rfl rfl (fun W hp => RowAt.load 0 Tryz.hT rfl ((fun W hp => (hr2 i (by omega)).hp hp) W hp) rfl) ?_
        refine wq_pure Tryz.hT rfl rfl rfl ?_
        by_cases hx : xs[i] = ys[i]
        · refine wq_upd 24 (.bool false) rfl (congrArg Value.bool (by show (!_) = false; rw [strEqQ, decide_eq_true hx]; rfl)) ?_
          refine wq_nil ?_
          refine wl_nil ?_
          refine zE ?_
          refine zS rfl ?_
          refine zI ?_
          refine zN ?_
          refine zE ?_
          refine zB ?_
          refine wl_pure Tryz.hT rfl rfl rfl ?_
          refine wl_upd 25 (.int .i64 ((i + 1 : Nat) : Int)) rfl (congrArg (Value.int .i64) (w64_succ (by omega))) ?_
          refine wl_pure Tryz.hT rfl rfl rfl ?_
          refine wl_nil ?_
          exact ne_loop (i + 1) ⟨hlt, by rw [List.take_add_one, List.take_add_one, he, List.getElem?_eq_getElem hlt, List.getElem?_eq_getElem (by omega), hx]⟩ (by show xs.length - (i + 1) < xs.length - i; omega) ⟨rfl, rfl, rfl, rfl, rfl, trivial⟩ [] rfl
        · refine wq_upd 24 (.bool true) rfl (congrArg Value.bool (by show (!_) = true; rw [strEqQ, decide_eq_false hx]; rfl)) ?_
          refine wq_nil ?_
          refine wl_nil ?_
          refine zE ?_
          refine zR rfl ?_
          refine zA ?_
          refine zB ?_
          refine wl_pure Tryz.hT rfl rfl rfl ?_
          refine wl_nil ?_
          refine zE ?_
          refine zO ?_
          refine zQ ?_
          iterate 2 refine zP ?_
          refine zQ ?_
          refine zP ?_
          exact ne_ret1 Tryz.hT rfl (.tmp rfl) () (by rw [decide_eq_false fun e => hx (by subst e; rfl)]) trivial fun W _ => NewBx.nil _ _
      · refine wl_upd 14 (.bool false) rfl (congrArg Value.bool (decide_eq_false (by omega))) ?_
        refine wl_nil ?_
        refine zE ?_
        refine zA ?_
        refine zS rfl ?_
        refine zJ ?_
        iterate 2 refine zK ?_
        refine zL ?_
        exact ne_cut () (by rw [List.take_of_length_le (by omega), List.take_of_length_le (by omega)] at he; exact he) ⟨rfl, trivial⟩ [] rfl
    · intro _ he
      have he : xs = ys := he
      refine zA ?_
      refine zB ?_
      refine wl_pure Tryz.hT rfl rfl rfl ?_
      refine wl_nil ?_
      refine zE ?_
      refine zO ?_
      exact ne_ret1 Tryz.hT rfl (.tmp rfl) () (by rw [decide_eq_true he]) trivial fun W _ => NewBx.nil _ _
  · refine wl_upd 10 (.bool true) rfl (congrArg Value.bool (by rw [bne_iff_ne]; omega)) ?_
    refine wl_nil ?_
    refine zE ?_
    refine zR rfl ?_
    refine zA ?_
    refine zB ?_
    refine wl_pure Tryz.hT rfl rfl rfl ?_
    refine wl_nil ?_
    refine zE ?_
    refine zO ?_
    refine zP ?_
    exact ne_ret1 Tryz.hT rfl (.tmp rfl) () (by rw [decide_eq_false fun e => hl (by rw [e])]) trivial fun W _ => NewBx.nil _ _
end Go.Proofs.YteaiopkopifijaaGreatDoor
namespace Go.Proofs.YteaiopkopifijaaGreatDoor
open Go Go.RowKit Go.Am Go.Lib
set_option maxRecDepth 10000
-- BOXES 4
abbrev frB (b : Nat) (f : FrP) : Bx := ⟨b, 30, (frV f).cells.toList, true, none⟩
theorem meetings_gives (f g : FrP) (W : World) : CallsR Tryz.prog 46 #[frV f, frV g] W (fun x : Nat × Nat => .func (.func 103) #[] #[selfP x.1, selfP x.2]) (fun _ => True) (fun x => [frB x.1 f, frB x.2 g]) := by
  refine calls_enter (args := [frV f, frV g]) Tryz.func46 rfl rfl rfl ?_
  repeat (first | refine zA ?_ | refine zB ?_ | refine zC ?_ | refine zD ?_ | refine zE ?_ | refine zF ?_ | refine zG ?_ | refine zH ?_ | refine zI ?_ | refine zJ ?_ | refine zK ?_ | refine zL ?_ | refine zM rfl ?_ | refine zN ?_ | refine zO ?_ | refine zP ?_ | refine zQ ?_ | refine zR rfl ?_ | refine zS rfl ?_ | refine zT Tryz.mixed (by kernel_rfl) ?_)
  (refine wl_box rfl rfl rfl rfl ?_; intro)
  (refine wl_box rfl rfl rfl rfl ?_; intro)
  refine wl_pure Tryz.hT rfl rfl rfl ?_
  refine wl_nil ?_
  rename_i b2 b3
  repeat (first | refine zA ?_ | refine zB ?_ | refine zC ?_ | refine zD ?_ | refine zE ?_ | refine zF ?_ | refine zG ?_ | refine zH ?_ | refine zI ?_ | refine zJ ?_ | refine zK ?_ | refine zL ?_ | refine zM rfl ?_ | refine zN ?_ | refine zO ?_ | refine zP ?_ | refine zQ ?_ | refine zR rfl ?_ | refine zS rfl ?_ | refine zT Tryz.mixed (by kernel_rfl) ?_)
  iterate 2 refine wl_pure Tryz.hT rfl rfl rfl ?_
  refine wl_nil ?_
  repeat (first | refine zA ?_ | refine zB ?_ | refine zC ?_ | refine zD ?_ | refine zE ?_ | refine zF ?_ | refine zG ?_ | refine zH ?_ | refine zI ?_ | refine zJ ?_ | refine zK ?_ | refine zL ?_ | refine zM rfl ?_ | refine zN ?_ | refine zO ?_ | refine zP ?_ | refine zQ ?_ | refine zR rfl ?_ | refine zS rfl ?_ | refine zT Tryz.mixed (by kernel_rfl) ?_)
  exact ne_ret1 Tryz.hT rfl (.tmp rfl) (b2, b3) rfl trivial fun W hp => NewBx.of_hp hp
/-- How far the second stands ahead of the first. -/
def gapQ (f g : FrP) : Rat := (g.pos : Rat) - (f.pos : Rat)
/-- The times that meetings yields, in its order. -/
def meetL (f g : FrP) : List Rat :=
  [f.st, g.st] ++ (if f.vel = 0 then [] else [f.st + gapQ f g / f.vel]) ++ (if g.vel = 0 then [] else [g.st - gapQ f g / g.vel]) ++
  (if f.vel = g.vel then [] else [(gapQ f g + (f.vel * f.st - g.vel * g.st)) / (f.vel - g.vel)])
theorem meetL_len (f g : FrP) : (meetL f g).length ≤ 5 := by
  unfold meetL
  by_cases h1 : f.vel = 0 <;> by_cases h2 : g.vel = 0 <;> by_cases h3 : f.vel = g.vel <;> simp only [h1, h2, h3, if_true, if_false] <;> (try split) <;> simp
end Go.Proofs.YteaiopkopifijaaGreatDoor
namespace Go.Proofs.YteaiopkopifijaaGreatDoor
theorem FrP.at_le {f : FrP} {t : Rat} (h : t ≤ f.st) : f.at t = (f.pos : Rat) := by rw [FrP.at, if_pos h]
theorem FrP.at_ge {f : FrP} {t : Rat} (h : f.st ≤ t) : f.at t = (f.pos : Rat) + f.vel * (t - f.st) := by
  by_cases e : t ≤ f.st
  · have e2 : t = f.st := Rat.le_antisymm e h
    rw [FrP.at, if_pos e, e2]; grind
  · rw [FrP.at, if_neg e]
end Go.Proofs.YteaiopkopifijaaGreatDoor
namespace Go.Proofs.YteaiopkopifijaaGreatDoor
/-- A number set into a sorted row, behind those that are no greater. -/
def insQ (x : Rat) : List Rat → List Rat
  | [] => [x]
  | y :: l => if x < y then x :: y :: l else y :: insQ x l
def sortQ (l : List Rat) : List Rat := l.foldl (fun s x => insQ x s) []
theorem insQ_len (x : Rat) : ∀ l, (insQ x l).length = l.length + 1
  | [] => rfl
  | y :: l => by
    unfold insQ
    split
    · rfl
    · simp [insQ_len x l]
theorem mem_insQ {x z : Rat} : ∀ {l}, z ∈ insQ x l ↔ z = x ∨ z ∈ l
  | [] => by simp [insQ]
  | y :: l => by
    unfold insQ
    split
    · simp
    · rw [List.mem_cons, mem_insQ, List.mem_cons]
      constructor
      · rintro (h | h | h)
        · exact .inr (.inl h)
        · exact .inl h
        · exact .inr (.inr h)
      · rintro (h | h | h)
        · exact .inr (.inl h)
        · exact .inl h
        · exact .inr (.inr h)
theorem insQ_sorted {x : Rat} : ∀ {l}, l.Pairwise (· ≤ ·) → (insQ x l).Pairwise (· ≤ ·)
  | [], _ => by simp [insQ]
  | y :: l, h => by
    have h2 := List.pairwise_cons.1 h
    unfold insQ
    split
    · rename_i hxy
      refine List.pairwise_cons.2 ⟨fun z hz => ?_, h⟩
      rcases List.mem_cons.1 hz with rfl | hz
      · exact Rat.le_of_lt hxy
      · exact Rat.le_trans (Rat.le_of_lt hxy) (h2.1 z hz)
    · rename_i hxy
      refine List.pairwise_cons.2 ⟨fun z hz => ?_, insQ_sorted h2.2⟩
      rcases mem_insQ.1 hz with rfl | hz
      · exact Rat.not_lt.1 hxy
      · exact h2.1 z hz
theorem sortQ_sorted (l : List Rat) : (sortQ l).Pairwise (· ≤ ·) := by
  have : ∀ (l s : List Rat), s.Pairwise (· ≤ ·) → (l.foldl (fun s x => insQ x s) s).Pairwise (· ≤ ·) := by
    intro l
    induction l with
    | nil => exact fun s h => h
    | cons x l ih => exact fun s h => ih _ (insQ_sorted h)
  exact this l [] List.Pairwise.nil
theorem mem_sortQ {z : Rat} {l : List Rat} : z ∈ sortQ l ↔ z ∈ l := by
  have : ∀ (l s : List Rat), z ∈ l.foldl (fun s x => insQ x s) s ↔ z ∈ l ∨ z ∈ s := by
    intro l
    induction l with
    | nil => exact fun s => by simp
    | cons x l ih =>
      intro s
      rw [List.foldl_cons, ih, mem_insQ, List.mem_cons]
      constructor
      · rintro (h | h | h)
        · exact .inl (.inr h)
        · exact .inl (.inl h)
        · exact .inr h
      · rintro ((h | h) | h)
        · exact .inr (.inl h)
        · exact .inl h
        · exact .inr (.inr h)
  rw [sortQ, this]; simp
end Go.Proofs.YteaiopkopifijaaGreatDoor
namespace Go.Proofs.YteaiopkopifijaaGreatDoor
/-- Compact: of equal neighbours the first stays. -/
def compQ : List Rat → List Rat
  | [] => []
  | [x] => [x]
  | x :: y :: l => if y = x then compQ (x :: l) else x :: compQ (y :: l)
termination_by l => l.length
theorem mem_compQ {z : Rat} (l : List Rat) : z ∈ compQ l ↔ z ∈ l := by
  fun_induction compQ l with
  | case1 => exact Iff.rfl
  | case2 x => exact Iff.rfl
  | case3 x l ih => rw [ih]; simp
  | case4 x y l h ih => rw [List.mem_cons, ih, List.mem_cons (b := x)]
theorem compQ_strict (l : List Rat) (h : l.Pairwise (· ≤ ·)) : (compQ l).Pairwise (· < ·) := by
  fun_induction compQ l with
  | case1 => exact List.Pairwise.nil
  | case2 x => simp
  | case3 x l ih =>
    exact ih (List.pairwise_cons.1 h).2
  | case4 x y l hne ih =>
    have h2 := List.pairwise_cons.1 h
    have h3 := List.pairwise_cons.1 h2.2
    refine List.pairwise_cons.2 ⟨fun z hz => ?_, ih h2.2⟩
    have hxy : x < y := Rat.lt_of_le_of_ne (h2.1 y (List.mem_cons_self ..)) fun e => hne e.symm
    rcases List.mem_cons.1 ((mem_compQ _).1 hz) with rfl | hz
    · exact hxy
    · exact Rat.not_le.1 fun e => Rat.not_le.2 hxy (Rat.le_trans (h3.1 z hz) e)
end Go.Proofs.YteaiopkopifijaaGreatDoor
namespace Go.Proofs.YteaiopkopifijaaGreatDoor
theorem numS_inj {p q : Rat} : numS p = numS q ↔ p = q := by
  refine ⟨fun h => ?_, fun h => by rw [h]⟩
  have h1 := frm_parS p.num p.den_pos
  have h2 := frm_parS q.num q.den_pos
  have h : parS p.num p.den = parS q.num q.den := h
  rw [h, h2] at h1
  injection h1 with h1
  injection h1 with a b
  exact Rat.ext a.symm b.symm
/-- Equal positions, and other velocities ahead of the time or behind it. -/
def frEq (f g : FrP) (t : Rat) : Bool := decide (f.at t = g.at t) && (decide (f.velB t ≠ g.velB t) || decide (f.velA t ≠ g.velA t))
/-- What Equal returns. -/
def eqL (f g : FrP) : List Rat := compQ (sortQ ((meetL f g).filter (frEq f g)))
theorem frEq_iff {f g : FrP} {t : Rat} : frEq f g t = true ↔ f.at t = g.at t ∧ (f.velB t ≠ g.velB t ∨ f.velA t ≠ g.velA t) := by
  simp [frEq]
theorem mem_eqL {f g : FrP} {t : Rat} : t ∈ eqL f g ↔ t ∈ meetL f g ∧ frEq f g t = true := by
  rw [eqL, mem_compQ, mem_sortQ, List.mem_filter]
theorem eqL_strict (f g : FrP) : (eqL f g).Pairwise (· < ·) := compQ_strict _ (sortQ_sorted _)
theorem mem_meetL {f g : FrP} {t : Rat} : t ∈ meetL f g ↔ t = f.st ∨ t = g.st ∨ (f.vel ≠ 0 ∧ t = f.st + gapQ f g / f.vel) ∨ (g.vel ≠ 0 ∧ t = g.st - gapQ f g / g.vel) ∨
    (f.vel ≠ g.vel ∧ t = (gapQ f g + (f.vel * f.st - g.vel * g.st)) / (f.vel - g.vel)) := by
  unfold meetL
  by_cases h1 : f.vel = 0 <;> by_cases h2 : g.vel = 0 <;> by_cases h3 : f.vel = g.vel <;> simp only [h1, h2, h3, if_true, if_false, List.mem_append, List.mem_cons, List.not_mem_nil, or_false, false_or, ne_eq, not_true, not_false_eq_true, true_and, false_and, or_assoc] <;> (try split) <;> simp_all
end Go.Proofs.YteaiopkopifijaaGreatDoor
namespace Go.Proofs.YteaiopkopifijaaGreatDoor
/-- Between two times a front moves at one velocity. -/
structure Lin (f : FrP) (p q v c : Rat) : Prop where
  at_ : ∀ x, p ≤ x → x ≤ q → f.at x = c + v * x
  a : ∀ x, p ≤ x → x < q → f.velA x = v
  b : ∀ x, p < x → x ≤ q → f.velB x = v
theorem lin_lo (f : FrP) {p q : Rat} (h : q ≤ f.st) : Lin f p q 0 (f.pos : Rat) := by
  refine ⟨fun x _ h2 => ?_, fun x _ h2 => ?_, fun x _ h2 => ?_⟩
  · rw [FrP.at_le (Rat.le_trans h2 h)]; grind
  · rw [FrP.velA, if_pos (show x < f.st by grind)]
  · rw [FrP.velB, if_neg (Rat.not_lt.2 (Rat.le_trans h2 h))]
theorem lin_hi (f : FrP) {p q : Rat} (h : f.st ≤ p) : Lin f p q f.vel ((f.pos : Rat) - f.vel * f.st) := by
  refine ⟨fun x h1 _ => ?_, fun x h1 _ => ?_, fun x h1 _ => ?_⟩
  · rw [FrP.at_ge (Rat.le_trans h h1)]; grind
  · rw [FrP.velA, if_neg (Rat.not_lt.2 (Rat.le_trans h h1))]
  · rw [FrP.velB, if_pos (show f.st < x by grind)]
theorem lin_zero {f g : FrP} {p q v c w d z : Rat} (hf : Lin f p q v c) (hg : Lin g p q w d) (hpq : p < q) (hvw : v ≠ w) (h1 : p ≤ z) (h2 : z ≤ q) (hz : c + v * z = d + w * z) : frEq f g z = true := by
  rw [frEq_iff]
  refine ⟨by rw [hf.at_ z h1 h2, hg.at_ z h1 h2, hz], ?_⟩
  by_cases e : z < q
  · exact .inr (by rw [hf.a z h1 e, hg.a z h1 e]; exact hvw)
  · exact .inl (by rw [hf.b z (by grind) h2, hg.b z (by grind) h2]; exact hvw)
theorem cmpQ_of_sub {p q x y : Rat} (h1 : p < q ↔ x < y) (h2 : p = q ↔ x = y) : cmpQ p q = cmpQ x y := by
  unfold cmpQ
  by_cases c1 : p < q
  · rw [if_pos c1, if_pos (h1.1 c1)]
  · rw [if_neg c1, if_neg fun e => c1 (h1.2 e)]
    by_cases c2 : p = q
    · rw [if_pos c2, if_pos (h2.1 c2)]
    · rw [if_neg c2, if_neg fun e => c2 (h2.2 e)]
theorem lin_sign {f g : FrP} {p q v c w d : Rat} (hf : Lin f p q v c) (hg : Lin g p q w d) (hpq : p ≤ q) (H : ∀ t, p ≤ t → t ≤ q → ¬ frEq f g t = true) : cmpQ (f.at p) (g.at p) = cmpQ (f.at q) (g.at q) := by
  by_cases e : p = q
  · rw [e]
  have hlt : p < q := Rat.lt_of_le_of_ne hpq e
  rw [hf.at_ p Rat.le_refl hpq, hg.at_ p Rat.le_refl hpq, hf.at_ q hpq Rat.le_refl, hg.at_ q hpq Rat.le_refl]
  by_cases hvw : v = w
  · subst hvw
    refine cmpQ_of_sub ?_ ?_ <;> constructor <;> intro h <;> grind
  · obtain ⟨s, hs⟩ : ∃ s, s = v - w := ⟨_, rfl⟩
    obtain ⟨z, hz⟩ : ∃ z, z = (d - c) / s := ⟨_, rfl⟩
    have hs0 : s ≠ 0 := by grind
    have hzs : z * s = d - c := by grind
    have hz0 : c + v * z = d + w * z := by grind
    have hno : ¬ (p ≤ z ∧ z ≤ q) := fun ⟨h1, h2⟩ => H z h1 h2 (lin_zero hf hg hlt hvw h1 h2 hz0)
    have ep : (d + w * p) - (c + v * p) = s * (z - p) := by grind
    have eq : (d + w * q) - (c + v * q) = s * (z - q) := by grind
    rcases (show z < p ∨ q < z by by_cases h : p ≤ z; exact .inr (Rat.not_le.1 fun h2 => hno ⟨h, h2⟩); exact .inl (Rat.not_le.1 h)) with hz1 | hz1
    · have n1 : 0 < p - z := by grind
      have n2 : 0 < q - z := by grind
      rcases (show 0 < s ∨ 0 < -s by by_cases h : 0 < s; exact .inl h; right; have := Rat.not_lt.1 h; have := Rat.lt_of_le_of_ne this hs0; grind) with h | h
      · have a1 := Rat.mul_pos h n1
        have a2 := Rat.mul_pos h n2
        refine cmpQ_of_sub ?_ ?_ <;> constructor <;> intro h <;> grind
      · have a1 := Rat.mul_pos h n1
        have a2 := Rat.mul_pos h n2
        refine cmpQ_of_sub ?_ ?_ <;> constructor <;> intro h <;> grind
    · have n1 : 0 < z - p := by grind
      have n2 : 0 < z - q := by grind
      rcases (show 0 < s ∨ 0 < -s by by_cases h : 0 < s; exact .inl h; right; have := Rat.not_lt.1 h; have := Rat.lt_of_le_of_ne this hs0; grind) with h | h
      · have a1 := Rat.mul_pos h n1
        have a2 := Rat.mul_pos h n2
        refine cmpQ_of_sub ?_ ?_ <;> constructor <;> intro h <;> grind
      · have a1 := Rat.mul_pos h n1
        have a2 := Rat.mul_pos h n2
        refine cmpQ_of_sub ?_ ?_ <;> constructor <;> intro h <;> grind
theorem frEq_mem {f g : FrP} {t : Rat} (h : frEq f g t = true) : (f.vel ≠ 0 ∧ t = f.st + gapQ f g / f.vel ∧ f.st ≤ t ∧ t ≤ g.st) ∨ (g.vel ≠ 0 ∧ t = g.st - gapQ f g / g.vel ∧ g.st ≤ t ∧ t ≤ f.st) ∨
    (f.vel ≠ g.vel ∧ t = (gapQ f g + (f.vel * f.st - g.vel * g.st)) / (f.vel - g.vel)) := by
  rw [frEq_iff] at h
  obtain ⟨he, h⟩ := h
  have key : ∀ (c1 : f.st ≤ t ∨ t ≤ f.st) (c2 : g.st ≤ t ∨ t ≤ g.st), True := fun _ _ => trivial
  have both : f.st ≤ t → g.st ≤ t → f.vel ≠ g.vel → t = (gapQ f g + (f.vel * f.st - g.vel * g.st)) / (f.vel - g.vel) := fun h1 h2 h3 => by
    rw [FrP.at_ge h1, FrP.at_ge h2] at he
    have : f.vel - g.vel ≠ 0 := by grind
    unfold gapQ
    grind
  have fst : f.st ≤ t → t ≤ g.st → f.vel ≠ 0 → t = f.st + gapQ f g / f.vel := fun h1 h2 h3 => by
    rw [FrP.at_ge h1, FrP.at_le h2] at he
    unfold gapQ
    grind
  have snd : t ≤ f.st → g.st ≤ t → g.vel ≠ 0 → t = g.st - gapQ f g / g.vel := fun h1 h2 h3 => by
    rw [FrP.at_le h1, FrP.at_ge h2] at he
    unfold gapQ
    grind
  rcases h with h | h
  · unfold FrP.velB at h
    by_cases c1 : f.st < t
    · rw [if_pos c1] at h
      by_cases c2 : g.st < t
      · rw [if_pos c2] at h
        exact .inr (.inr ⟨h, both (Rat.le_of_lt c1) (Rat.le_of_lt c2) h⟩)
      · rw [if_neg c2] at h
        exact .inl ⟨h, fst (Rat.le_of_lt c1) (Rat.not_lt.1 c2) h, Rat.le_of_lt c1, Rat.not_lt.1 c2⟩
    · rw [if_neg c1] at h
      by_cases c2 : g.st < t
      · rw [if_pos c2] at h
        exact .inr (.inl ⟨fun e => h e.symm, snd (Rat.not_lt.1 c1) (Rat.le_of_lt c2) (fun e => h e.symm), Rat.le_of_lt c2, Rat.not_lt.1 c1⟩)
      · rw [if_neg c2] at h
        exact absurd rfl h
  · unfold FrP.velA at h
    by_cases c1 : t < f.st
    · rw [if_pos c1] at h
      by_cases c2 : t < g.st
      · rw [if_pos c2] at h
        exact absurd rfl h
      · rw [if_neg c2] at h
        exact .inr (.inl ⟨fun e => h e.symm, snd (Rat.le_of_lt c1) (Rat.not_lt.1 c2) (fun e => h e.symm), Rat.not_lt.1 c2, Rat.le_of_lt c1⟩)
    · rw [if_neg c1] at h
      by_cases c2 : t < g.st
      · rw [if_pos c2] at h
        exact .inl ⟨h, fst (Rat.not_lt.1 c1) (Rat.le_of_lt c2) h, Rat.not_lt.1 c1, Rat.le_of_lt c2⟩
      · rw [if_neg c2] at h
        exact .inr (.inr ⟨h, both (Rat.not_lt.1 c1) (Rat.not_lt.1 c2) h⟩)
theorem frEq_meet {f g : FrP} {t : Rat} (h : frEq f g t = true) : t ∈ eqL f g := by
  rw [mem_eqL, mem_meetL]
  refine ⟨?_, h⟩
  rcases frEq_mem h with ⟨h0, h1, _⟩ | ⟨h0, h1, _⟩ | ⟨h0, h1⟩
  · exact .inr (.inr (.inl ⟨h0, h1⟩))
  · exact .inr (.inr (.inr (.inl ⟨h0, h1⟩)))
  · exact .inr (.inr (.inr (.inr ⟨h0, h1⟩)))
theorem strict_two {l : List Rat} {x y : Rat} (h : l.Pairwise (· < ·)) (hm : ∀ z ∈ l, z = x ∨ z = y) : l.length ≤ 2 := by
  match l, h, hm with
  | [], _, _ => simp
  | [_], _, _ => simp
  | [_, _], _, _ => simp
  | a :: b :: c :: l, h, hm =>
    have h1 := List.pairwise_cons.1 h
    have h2 := List.pairwise_cons.1 h1.2
    have ab := h1.1 b (by simp)
    have ac := h1.1 c (by simp)
    have bc := h2.1 c (by simp)
    have ha := hm a (by simp)
    have hb := hm b (by simp)
    have hc := hm c (by simp)
    exfalso
    rcases ha with rfl | rfl <;> rcases hb with rfl | rfl <;> rcases hc with rfl | rfl <;> first | exact Rat.lt_irrefl ab | exact Rat.lt_irrefl ac | exact Rat.lt_irrefl bc
theorem eqL_two (f g : FrP) : (eqL f g).length ≤ 2 := by
  refine strict_two (x := if f.st ≤ g.st then f.st + gapQ f g / f.vel else g.st - gapQ f g / g.vel) (y := (gapQ f g + (f.vel * f.st - g.vel * g.st)) / (f.vel - g.vel)) (eqL_strict f g) fun z hz => ?_
  have h := (mem_eqL.1 hz).2
  rcases frEq_mem h with ⟨_, h1, h2, h3⟩ | ⟨_, h1, h2, h3⟩ | ⟨_, h1⟩
  · exact .inl (by rw [if_pos (Rat.le_trans h2 h3)]; exact h1)
  · by_cases e : f.st ≤ g.st
    · have e1 : z = f.st := Rat.le_antisymm h3 (Rat.le_trans e h2)
      have e2 : z = g.st := Rat.le_antisymm (by rw [e1]; exact e) h2
      rw [if_pos e]
      have : f.at z = g.at z := (frEq_iff.1 h).1
      rw [FrP.at_le (by rw [e1]; exact Rat.le_refl), FrP.at_le (by rw [e2]; exact Rat.le_refl)] at this
      have hg : gapQ f g = 0 := by unfold gapQ; grind
      refine .inl ?_
      rw [hg, Rat.div_def, Rat.zero_mul, ← e1]
      grind
    · exact .inl (by rw [if_neg e]; exact h1)
  · exact .inr h1
theorem meets_law (f g : FrP) {a b : Rat} (hab : a ≤ b) (H : ∀ t ∈ eqL f g, ¬ (a ≤ t ∧ t ≤ b)) : cmpQ (f.at a) (g.at a) = cmpQ (f.at b) (g.at b) := by
  have H2 : ∀ t, a ≤ t → t ≤ b → ¬ frEq f g t = true := fun t h1 h2 h => H t (frEq_meet h) ⟨h1, h2⟩
  clear H
  -- one piece for each front
  have one : ∀ p q, a ≤ p → q ≤ b → p ≤ q → (q ≤ f.st ∨ f.st ≤ p) → (q ≤ g.st ∨ g.st ≤ p) → cmpQ (f.at p) (g.at p) = cmpQ (f.at q) (g.at q) := by
    intro p q h1 h2 h3 h4 h5
    have H3 : ∀ t, p ≤ t → t ≤ q → ¬ frEq f g t = true := fun t e1 e2 => H2 t (Rat.le_trans h1 e1) (Rat.le_trans e2 h2)
    rcases h4 with h4 | h4 <;> rcases h5 with h5 | h5
    · exact lin_sign (lin_lo f h4) (lin_lo g h5) h3 H3
    · exact lin_sign (lin_lo f h4) (lin_hi g h5) h3 H3
    · exact lin_sign (lin_hi f h4) (lin_lo g h5) h3 H3
    · exact lin_sign (lin_hi f h4) (lin_hi g h5) h3 H3
  -- one piece for the first alone
  have two : ∀ p q, a ≤ p → q ≤ b → p ≤ q → (q ≤ f.st ∨ f.st ≤ p) → cmpQ (f.at p) (g.at p) = cmpQ (f.at q) (g.at q) := by
    intro p q h1 h2 h3 h4
    by_cases c1 : q ≤ g.st
    · exact one p q h1 h2 h3 h4 (.inl c1)
    by_cases c2 : g.st ≤ p
    · exact one p q h1 h2 h3 h4 (.inr c2)
    have c1 := Rat.le_of_lt (Rat.not_le.1 c1)
    have c2 := Rat.le_of_lt (Rat.not_le.1 c2)
    exact (one p g.st h1 (Rat.le_trans c1 h2) c2 (h4.imp (fun e => Rat.le_trans c1 e) id) (.inl Rat.le_refl)).trans
      (one g.st q (Rat.le_trans h1 c2) h2 c1 (h4.imp id fun e => Rat.le_trans e c2) (.inr Rat.le_refl))
  by_cases c1 : b ≤ f.st
  · exact two a b Rat.le_refl Rat.le_refl hab (.inl c1)
  by_cases c2 : f.st ≤ a
  · exact two a b Rat.le_refl Rat.le_refl hab (.inr c2)
  have c1 := Rat.le_of_lt (Rat.not_le.1 c1)
  have c2 := Rat.le_of_lt (Rat.not_le.1 c2)
  exact (two a f.st Rat.le_refl c1 c2 (.inl Rat.le_refl)).trans (two f.st b c2 Rat.le_refl c1 (.inr Rat.le_refl))
end Go.Proofs.YteaiopkopifijaaGreatDoor
namespace Go.Proofs.YteaiopkopifijaaGreatDoor
open Go Go.RowKit Go.Am Go.Lib
set_option maxRecDepth 10000
-- BOXES 4
/-- What the iterator reads. -/
structure MeetN (b1 b2 : Nat) (f g : FrP) (W : World) : Prop where
  f : RowAt W b1 0 (frV f).cells.toList
  g : RowAt W b2 0 (frV g).cells.toList
  v : MaxP W
  t : TabP W
/-- The numbers within it are short enough. -/
structure MeetZ (f g : FrP) : Prop where
  d1 : f.vel ≠ 0 → Sz2 (gapQ f g) f.vel
  a1 : f.vel ≠ 0 → Sz2 f.st (gapQ f g / f.vel)
  d2 : g.vel ≠ 0 → Sz2 (gapQ f g) g.vel
  a2 : g.vel ≠ 0 → Sz2 g.st (gapQ f g / g.vel)
  m1 : Sz2 f.vel f.st
  m2 : Sz2 g.vel g.st
  s : Sz2 (f.vel * f.st) (g.vel * g.st)
  a : Sz2 (gapQ f g) (f.vel * f.st - g.vel * g.st)
  w : Sz2 f.vel g.vel
  d : f.vel ≠ g.vel → Sz2 (gapQ f g + (f.vel * f.st - g.vel * g.st)) (f.vel - g.vel)
def mi3 (f : FrP) : Nat := if f.vel = 0 then 2 else 3
def mi4 (f g : FrP) : Nat := if g.vel = 0 then mi3 f else mi3 f + 1
theorem meet0 (f g : FrP) : (meetL f g).getD 0 0 = f.st ∧ (meetL f g).getD 1 0 = g.st ∧ 1 < (meetL f g).length := by
  unfold meetL
  by_cases h1 : f.vel = 0 <;> by_cases h2 : g.vel = 0 <;> by_cases h3 : f.vel = g.vel <;> simp only [h1, h2, h3, if_true, if_false] <;> (try split) <;> simp
theorem meet2 {f g : FrP} (h : f.vel ≠ 0) : (meetL f g).getD 2 0 = f.st + gapQ f g / f.vel ∧ 2 < (meetL f g).length := by
  unfold meetL
  by_cases h2 : g.vel = 0 <;> by_cases h3 : f.vel = g.vel <;> simp only [h, h2, h3, if_true, if_false] <;> (try split) <;> simp_all
theorem meet3 {f g : FrP} (h : g.vel ≠ 0) : (meetL f g).getD (mi3 f) 0 = g.st - gapQ f g / g.vel ∧ mi3 f < (meetL f g).length ∧ mi4 f g = mi3 f + 1 := by
  unfold meetL mi4 mi3
  by_cases h2 : f.vel = 0 <;> by_cases h3 : f.vel = g.vel <;> simp only [h, h2, h3, if_true, if_false] <;> (try split) <;> simp_all
theorem meet4 {f g : FrP} (h : f.vel ≠ g.vel) : (meetL f g).getD (mi4 f g) 0 = (gapQ f g + (f.vel * f.st - g.vel * g.st)) / (f.vel - g.vel) ∧ mi4 f g < (meetL f g).length ∧ (meetL f g).length = mi4 f g + 1 := by
  unfold meetL mi4 mi3
  by_cases h2 : f.vel = 0 <;> by_cases h3 : g.vel = 0 <;> simp only [h, h2, h3, if_true, if_false] <;> (try split) <;> simp_all
theorem meet5 {f g : FrP} (h : f.vel = g.vel) : (meetL f g).length = mi4 f g := by
  unfold meetL mi4 mi3
  by_cases h2 : f.vel = 0 <;> by_cases h3 : g.vel = 0 <;> simp_all
theorem numS_eq0 (q : Rat) : decide (numS q = [48]) = decide (q = 0) := decide_eq_decide.2 (by rw [← numS_zero, numS_inj])
abbrev encT (l : List Rat) (k : Nat) : List Value := [str (numS (l.getD k 0))]
set_option maxHeartbeats 8000000 in
theorem meet_iter (f g : FrP) (hf : f.OK) (hg : g.OK) (hz : MeetZ f g) (b1 b2 : Nat) :
    IterG Tryz.prog 103 [selfP b1, selfP b2] (meetL f g).length (encT (meetL f g)) (fun _ => MeetN b1 b2 f g) := by
  refine ⟨fun y J Jx hN hB hY W hJ => ?_⟩
  have hG : ∀ k, Grows (J k) := fun k W W' h hb => hB k W W' h hb
  have hdr : ∀ k W, J k W → J k { W with drawn := W.drawn + 1 } := fun k W h => hB k W _ h ⟨rfl, rfl, rfl, Nat.le_refl _, fun _ _ => rfl⟩
  obtain ⟨e0, e1, l1⟩ := meet0 f g
  have hY0 : ∀ W, J 0 W → YieldAt (Fw none) 0 Tryz.prog y [str (numS f.st)].toArray W fun e W' => (e = .returned (.bool true) ∧ J 1 W') ∨ (e = .returned (.bool false) ∧ Jx W') := fun W h => by
    have := hY 0 W (by omega) h
    rwa [encT, e0] at this
  have hY1 : ∀ W, J 1 W → YieldAt (Fw none) 0 Tryz.prog y [str (numS g.st)].toArray W fun e W' => (e = .returned (.bool true) ∧ J 2 W') ∨ (e = .returned (.bool false) ∧ Jx W') := fun W h => by
    have := hY 1 W (by omega) h
    rwa [encT, e1] at this
  refine iter_enter (args := [.func (.yield y) #[] #[], selfP b1, selfP b2]) (J0 := J 0) Tryz.func103 rfl rfl rfl hJ ?_
  iterate 2 refine zA ?_
  refine zB ?_
  iterate 2 refine wl_pure Tryz.hT rfl rfl rfl ?_
  refine wl_load rfl rfl rfl rfl (fun W hp => RowAt.load 4 Tryz.hT rfl ((fun W hp => (hN 0 W hp).f) W hp) rfl) ?_
  refine wl_yield (A1 := J 1) (A2 := Jx) rfl rfl rfl rfl rfl rfl hY0 ?_ ?_
  rotate_left
  · refine wl_pure Tryz.hT rfl rfl rfl ?_
    refine wl_pure Tryz.hT rfl rfl rfl ?_
    iterate 5 refine wl_skip rfl rfl ?_
    refine wl_pure Tryz.hT rfl rfl rfl ?_
    refine zC ?_
    refine zE ?_
    refine zR rfl ?_
    refine zO ?_
    refine zP ?_
    exact ne_iter_stop rfl (fun W h => h)
  iterate 4 refine wl_pure Tryz.hT rfl rfl rfl ?_
  refine wl_load rfl rfl rfl rfl (fun W hp => RowAt.load 4 Tryz.hT rfl ((fun W hp => (hN 1 W hp).g) W hp) rfl) ?_
  refine wl_yield (A1 := J 2) (A2 := Jx) rfl rfl rfl rfl rfl rfl hY1 ?_ ?_
  rotate_left
  · refine wl_pure Tryz.hT rfl rfl rfl ?_
    refine wl_pure Tryz.hT rfl rfl rfl ?_
    refine zC ?_
    refine zE ?_
    refine zR rfl ?_
    refine zO ?_
    refine zP ?_
    exact ne_iter_stop rfl (fun W h => h)
  iterate 2 refine wl_pure Tryz.hT rfl rfl rfl ?_
  refine wl_nil ?_
  refine zE ?_
  refine zS rfl ?_
  refine zI ?_
  refine zE ?_
  refine zA ?_
  refine wc_draw 6 (hdr 2) Tryz.mixed (by kernel_rfl) rfl ?_
  refine wq_load rfl rfl rfl rfl (fun W hp => RowAt.load 0 Tryz.hT rfl ((fun W hp => (hN 2 W hp).f) W hp) rfl) ?_
  refine wq_callA (hG 2) rfl rfl rfl rfl rfl rfl (by kernel_rfl) (fun W hp => fvelocity_gives f hf W (hN 2 W hp).v (hN 2 W hp).t) ?_
  refine wq_load rfl rfl rfl rfl (fun W hp => RowAt.load 0 Tryz.hT rfl ((fun W hp => (hN 2 W hp).g) W hp) rfl) ?_
  refine wq_callA (hG 2) rfl rfl rfl rfl rfl rfl (by kernel_rfl) (fun W hp => fvelocity_gives g hg W (hN 2 W hp).v (hN 2 W hp).t) ?_
  iterate 2 refine wq_pure Tryz.hT rfl rfl rfl ?_
  refine wq_nil ?_
  refine wl_nil ?_
  refine zE ?_
  refine zA ?_
  refine wc_draw 8 (hdr 2) Tryz.mixed (by kernel_rfl) rfl ?_
  refine wq_pure Tryz.hT rfl rfl rfl ?_
  refine wq_load rfl rfl rfl rfl (fun W hp => RowAt.load 1 Tryz.hT rfl ((fun W hp => (hN 2 W hp).g) W hp) rfl) ?_
  refine wq_callA (hG 2) rfl rfl rfl rfl rfl rfl (by kernel_rfl) (fun W hp => fwhole_gives g.pos hg.pos64 W (hN 2 W hp).t) ?_
  refine wq_pure Tryz.hT rfl rfl rfl ?_
  refine wq_load rfl rfl rfl rfl (fun W hp => RowAt.load 1 Tryz.hT rfl ((fun W hp => (hN 2 W hp).f) W hp) rfl) ?_
  refine wq_callA (hG 2) rfl rfl rfl rfl rfl rfl (by kernel_rfl) (fun W hp => fwhole_gives f.pos hf.pos64 W (hN 2 W hp).t) ?_
  refine wq_callA (hG 2) rfl rfl rfl rfl rfl rfl (by kernel_rfl) (fun W hp => fsub_gives (g.pos : Rat) (f.pos : Rat) (sz2 hg.posz hf.posz (by decide)) W (hN 2 W hp).v (hN 2 W hp).t) ?_
  refine wq_pure Tryz.hT rfl rfl rfl ?_
  refine wq_nil ?_
  refine wl_nil ?_
  refine zE ?_
  iterate 2 refine zA ?_
  -- the first one's velocity
  refine wc_cutA (X := Bool) (fun s => [(0, .func (.yield y) #[] #[]), (1, selfP b1), (2, selfP b2), (4, str (numS f.vel)), (5, str (numS g.vel)), (6, str (numS (gapQ f g))), (42, .bool s)]) (fun s => match s with | true => Jx | false => J (mi3 f)) (fun _ => True) ?_ ?_
  · skip
    refine wc_draw 10 (hdr 2) Tryz.mixed (by kernel_rfl) rfl ?_
    iterate 2 refine wq_pure Tryz.hT rfl rfl rfl ?_
    by_cases h : f.vel = 0
    · refine wq_upd 31 (.bool false) rfl (congrArg Value.bool (by show (!_) = false; rw [strEqB, numS_eq0, decide_eq_true h]; rfl)) ?_
      refine wq_pure Tryz.hT rfl rfl rfl ?_
      iterate 7 refine wq_skip rfl rfl ?_
      refine zD ?_
      iterate 2 refine wl_skip rfl rfl ?_
      refine wl_pure Tryz.hT rfl rfl rfl ?_
      refine zC ?_
      exact ne_cutA false trivial ⟨rfl, rfl, rfl, rfl, rfl, rfl, rfl, trivial⟩ (fun W hp => by show J (mi3 f) W; rw [mi3, if_pos h]; exact hp)
    · refine wq_upd 31 (.bool true) rfl (congrArg Value.bool (by show (!_) = true; rw [strEqB, numS_eq0, decide_eq_false h]; rfl)) ?_
      obtain ⟨e2, l2⟩ := meet2 (g := g) h
      have hY2 : ∀ W, J 2 W → YieldAt (Fw none) 0 Tryz.prog y [str (numS (f.st + gapQ f g / f.vel))].toArray W fun e W' => (e = .returned (.bool true) ∧ J 3 W') ∨ (e = .returned (.bool false) ∧ Jx W') := fun W h => by
        have := hY 2 W (by omega) h
        rwa [encT, e2] at this
      iterate 3 refine wq_pure Tryz.hT rfl rfl rfl ?_
      refine wq_load rfl rfl rfl rfl (fun W hp => RowAt.load 4 Tryz.hT rfl ((fun W hp => (hN 2 W hp).f) W hp) rfl) ?_
      iterate 2 refine wq_pure Tryz.hT rfl rfl rfl ?_
      refine wq_callA (hG 2) rfl rfl rfl rfl rfl rfl (by kernel_rfl) (fun W hp => fdiv_gives (gapQ f g) f.vel (hz.d1 h) (by rwa [ne_eq, Rat.num_eq_zero]) W (hN 2 W hp).v (hN 2 W hp).t) ?_
      refine wq_callA (hG 2) rfl rfl rfl rfl rfl rfl (by kernel_rfl) (fun W hp => fadd_gives f.st (gapQ f g / f.vel) (hz.a1 h) W (hN 2 W hp).v (hN 2 W hp).t) ?_
      refine wq_nil ?_
      refine wl_yield (A1 := J 3) (A2 := Jx) rfl rfl rfl rfl rfl rfl hY2 ?_ ?_
      · refine wl_pure Tryz.hT rfl rfl rfl ?_
        refine wl_pure Tryz.hT rfl rfl rfl ?_
        refine zC ?_
        exact ne_cutA false trivial ⟨rfl, rfl, rfl, rfl, rfl, rfl, rfl, trivial⟩ (fun W hp => by show J (mi3 f) W; rw [mi3, if_neg h]; exact hp)
      · refine wl_pure Tryz.hT rfl rfl rfl ?_
        refine wl_pure Tryz.hT rfl rfl rfl ?_
        refine zC ?_
        exact ne_cutA true trivial ⟨rfl, rfl, rfl, rfl, rfl, rfl, rfl, trivial⟩ (fun W hp => hp)
  rintro (_ | _) _
  rotate_left
  · refine zR rfl ?_
    refine zO ?_
    refine zP ?_
    exact ne_iter_stop rfl (fun W h => h)
  -- the second one's
  refine zS rfl ?_
  refine zI ?_
  refine zE ?_
  iterate 2 refine zA ?_
  refine wc_cutA (X := Bool) (fun s => [(0, .func (.yield y) #[] #[]), (1, selfP b1), (2, selfP b2), (4, str (numS f.vel)), (5, str (numS g.vel)), (6, str (numS (gapQ f g))), (55, .bool s)]) (fun s => match s with | true => Jx | false => J (mi4 f g)) (fun _ => True) ?_ ?_
  · skip
    refine wc_draw 10 (hdr (mi3 f)) Tryz.mixed (by kernel_rfl) rfl ?_
    iterate 2 refine wq_pure Tryz.hT rfl rfl rfl ?_
    by_cases h : g.vel = 0
    · refine wq_upd 44 (.bool false) rfl (congrArg Value.bool (by show (!_) = false; rw [strEqB, numS_eq0, decide_eq_true h]; rfl)) ?_
      refine wq_pure Tryz.hT rfl rfl rfl ?_
      iterate 7 refine wq_skip rfl rfl ?_
      refine zD ?_
      iterate 2 refine wl_skip rfl rfl ?_
      refine wl_pure Tryz.hT rfl rfl rfl ?_
      refine zC ?_
      exact ne_cutA false trivial ⟨rfl, rfl, rfl, rfl, rfl, rfl, rfl, trivial⟩ (fun W hp => by show J (mi4 f g) W; rw [mi4, if_pos h]; exact hp)
    · refine wq_upd 44 (.bool true) rfl (congrArg Value.bool (by show (!_) = true; rw [strEqB, numS_eq0, decide_eq_false h]; rfl)) ?_
      obtain ⟨e3, l3, l3'⟩ := meet3 (f := f) h
      have hY3 : ∀ W, J (mi3 f) W → YieldAt (Fw none) 0 Tryz.prog y [str (numS (g.st - gapQ f g / g.vel))].toArray W fun e W' => (e = .returned (.bool true) ∧ J (mi3 f + 1) W') ∨ (e = .returned (.bool false) ∧ Jx W') := fun W h => by
        have := hY (mi3 f) W l3 h
        rwa [encT, e3] at this
      iterate 3 refine wq_pure Tryz.hT rfl rfl rfl ?_
      refine wq_load rfl rfl rfl rfl (fun W hp => RowAt.load 4 Tryz.hT rfl ((fun W hp => (hN _ W hp).g) W hp) rfl) ?_
      iterate 2 refine wq_pure Tryz.hT rfl rfl rfl ?_
      refine wq_callA (hG _) rfl rfl rfl rfl rfl rfl (by kernel_rfl) (fun W hp => fdiv_gives (gapQ f g) g.vel (hz.d2 h) (by rwa [ne_eq, Rat.num_eq_zero]) W (hN _ W hp).v (hN _ W hp).t) ?_
      refine wq_callA (hG _) rfl rfl rfl rfl rfl rfl (by kernel_rfl) (fun W hp => fsub_gives g.st (gapQ f g / g.vel) (hz.a2 h) W (hN _ W hp).v (hN _ W hp).t) ?_
      refine wq_nil ?_
      refine wl_yield (A1 := J (mi3 f + 1)) (A2 := Jx) rfl rfl rfl rfl rfl rfl hY3 ?_ ?_
      · refine wl_pure Tryz.hT rfl rfl rfl ?_
        refine wl_pure Tryz.hT rfl rfl rfl ?_
        refine zC ?_
        exact ne_cutA false trivial ⟨rfl, rfl, rfl, rfl, rfl, rfl, rfl, trivial⟩ (fun W hp => by show J (mi4 f g) W; rw [l3']; exact hp)
      · refine wl_pure Tryz.hT rfl rfl rfl ?_
        refine wl_pure Tryz.hT rfl rfl rfl ?_
        refine zC ?_
        exact ne_cutA true trivial ⟨rfl, rfl, rfl, rfl, rfl, rfl, rfl, trivial⟩ (fun W hp => hp)
  rintro (_ | _) _
  rotate_left
  · refine zR rfl ?_
    refine zO ?_
    refine zP ?_
    exact ne_iter_stop rfl (fun W h => h)
  -- where both move
  refine zS rfl ?_
  refine zI ?_
  refine zE ?_
  refine zA ?_
  refine zB ?_
  iterate 3 refine wl_pure Tryz.hT rfl rfl rfl ?_
  by_cases h : f.vel = g.vel
  · refine wl_upd 58 (.bool false) rfl (congrArg Value.bool (by show (!_) = false; rw [strEqB, decide_eq_true (by rw [h])]; rfl)) ?_
    refine zC ?_
    refine zE ?_
    refine zS rfl ?_
    refine zI ?_
    exact ne_iter rfl fun W hp => by rw [meet5 h]; exact hp
  · refine wl_upd 58 (.bool true) rfl (congrArg Value.bool (by show (!_) = true; rw [strEqB, decide_eq_false fun e => h (numS_inj.1 e)]; rfl)) ?_
    obtain ⟨e4, l4, l5⟩ := meet4 h
    have hY4 : ∀ W, J (mi4 f g) W → YieldAt (Fw none) 0 Tryz.prog y [str (numS ((gapQ f g + (f.vel * f.st - g.vel * g.st)) / (f.vel - g.vel)))].toArray W fun e W' => (e = .returned (.bool true) ∧ J (mi4 f g + 1) W') ∨ (e = .returned (.bool false) ∧ Jx W') := fun W h => by
      have := hY (mi4 f g) W l4 h
      rwa [encT, e4] at this
    refine zC ?_
    refine zE ?_
    refine zR rfl ?_
    refine wc_draw 16 (hdr (mi4 f g)) Tryz.mixed (by kernel_rfl) rfl ?_
    iterate 4 refine wq_pure Tryz.hT rfl rfl rfl ?_
    refine wq_load rfl rfl rfl rfl (fun W hp => RowAt.load 4 Tryz.hT rfl ((fun W hp => (hN _ W hp).f) W hp) rfl) ?_
    refine wq_callA (hG _) rfl rfl rfl rfl rfl rfl (by kernel_rfl) (fun W hp => fmul_gives f.vel f.st hz.m1 W (hN _ W hp).v (hN _ W hp).t) ?_
    iterate 2 refine wq_pure Tryz.hT rfl rfl rfl ?_
    refine wq_load rfl rfl rfl rfl (fun W hp => RowAt.load 4 Tryz.hT rfl ((fun W hp => (hN _ W hp).g) W hp) rfl) ?_
    refine wq_callA (hG _) rfl rfl rfl rfl rfl rfl (by kernel_rfl) (fun W hp => fmul_gives g.vel g.st hz.m2 W (hN _ W hp).v (hN _ W hp).t) ?_
    refine wq_callA (hG _) rfl rfl rfl rfl rfl rfl (by kernel_rfl) (fun W hp => fsub_gives (f.vel * f.st) (g.vel * g.st) hz.s W (hN _ W hp).v (hN _ W hp).t) ?_
    refine wq_callA (hG _) rfl rfl rfl rfl rfl rfl (by kernel_rfl) (fun W hp => fadd_gives (gapQ f g) (f.vel * f.st - g.vel * g.st) hz.a W (hN _ W hp).v (hN _ W hp).t) ?_
    iterate 2 refine wq_pure Tryz.hT rfl rfl rfl ?_
    refine wq_callA (hG _) rfl rfl rfl rfl rfl rfl (by kernel_rfl) (fun W hp => fsub_gives f.vel g.vel hz.w W (hN _ W hp).v (hN _ W hp).t) ?_
    refine wq_callA (hG _) rfl rfl rfl rfl rfl rfl (by kernel_rfl) (fun W hp => fdiv_gives (gapQ f g + (f.vel * f.st - g.vel * g.st)) (f.vel - g.vel) (hz.d h) (by rw [ne_eq, Rat.num_eq_zero]; grind) W (hN _ W hp).v (hN _ W hp).t) ?_
    refine wq_nil ?_
    refine wl_yield (A1 := J (mi4 f g + 1)) (A2 := Jx) rfl rfl rfl rfl rfl rfl hY4 ?_ ?_
    · refine zC ?_
      exact ne_iter rfl fun W hp => by rw [l5]; exact hp
    · refine zC ?_
      exact ne_iter_stopn rfl (fun W h => h)
end Go.Proofs.YteaiopkopifijaaGreatDoor
namespace Go.Proofs.YteaiopkopifijaaGreatDoor
theorem insQ_split {x : Rat} : ∀ (s : List Rat) (j : Nat), j ≤ s.length → (∀ y ∈ s.take j, ¬ x < y) → (∀ y ∈ s.drop j, x < y) → insQ x s = s.take j ++ x :: s.drop j
  | [], j, hj, _, _ => by
    obtain rfl : j = 0 := by simpa using hj
    rfl
  | y :: l, 0, _, _, h2 => by
    unfold insQ
    rw [if_pos (h2 y (List.mem_cons_self ..))]; rfl
  | y :: l, j + 1, hj, h1, h2 => by
    unfold insQ
    rw [if_neg (h1 y (by simp)), insQ_split l j (by simpa using hj) (fun z hz => h1 z (by simp [hz])) (fun z hz => h2 z (by simpa using hz))]
    rfl
theorem sortQ_len (l : List Rat) : (sortQ l).length = l.length := by
  have : ∀ (l s : List Rat), (l.foldl (fun s x => insQ x s) s).length = l.length + s.length := by
    intro l
    induction l with
    | nil => exact fun s => by simp
    | cons x l ih => exact fun s => by rw [List.foldl_cons, ih, insQ_len, List.length_cons]; omega
  rw [sortQ, this]; simp
theorem sortQ_take (l : List Rat) {i : Nat} (hi : i < l.length) : sortQ (l.take (i + 1)) = insQ l[i] (sortQ (l.take i)) := by
  rw [sortQ, List.take_add_one, List.getElem?_eq_getElem hi, List.foldl_append]; rfl
/-- Behind an insertion's last round. -/
theorem ins_done {x : Rat} {s : List Rat} {j : Nat} (hs : s.Pairwise (· ≤ ·)) (hj : j ≤ s.length) (h2 : ∀ y ∈ s.drop j, x < y) (h1 : ∀ (h : 0 < j), ¬ x < s[j - 1]) : insQ x s = s.take j ++ x :: s.drop j := by
  refine insQ_split s j hj (fun y hy => ?_) h2
  obtain ⟨k, hk, rfl⟩ := List.getElem_of_mem hy
  have hk' : k < j := by simp at hk; omega
  rw [List.getElem_take]
  have h3 := h1 (by omega)
  refine Rat.not_lt.2 (Rat.le_trans ?_ (Rat.not_lt.1 h3))
  by_cases e : k = j - 1
  · subst e; exact Rat.le_refl
  · exact List.pairwise_iff_getElem.1 hs k (j - 1) (by omega) (by omega) (by omega)
theorem compQ_nil : compQ [] = [] := by rw [compQ]
theorem compQ_one (x : Rat) : compQ [x] = [x] := by rw [compQ]
theorem compQ_cons (x y : Rat) (l : List Rat) : compQ (x :: y :: l) = if y = x then compQ (x :: l) else x :: compQ (y :: l) := by rw [compQ]
theorem compQ_two (x y : Rat) : compQ [x, y] = if y = x then compQ [x] else compQ [x] ++ [y] := by
  rw [compQ_cons]
  by_cases h : y = x
  · rw [if_pos h, if_pos h]
  · rw [if_neg h, if_neg h, compQ_one, compQ_one]; rfl
theorem compQ_snoc (l : List Rat) (x y : Rat) : compQ (l ++ [x, y]) = if y = x then compQ (l ++ [x]) else compQ (l ++ [x]) ++ [y] := by
  match l with
  | [] => exact compQ_two x y
  | [a] =>
    show compQ (a :: x :: [y]) = if y = x then compQ (a :: x :: []) else compQ (a :: x :: []) ++ [y]
    rw [compQ_cons a x [y], compQ_cons a x []]
    by_cases h2 : x = a
    · rw [if_pos h2, if_pos h2]
      subst h2
      exact compQ_two x y
    · rw [if_neg h2, if_neg h2, compQ_two x y]
      by_cases h : y = x
      · rw [if_pos h, if_pos h]
      · rw [if_neg h, if_neg h]; rfl
  | a :: b :: l =>
    show compQ (a :: b :: (l ++ [x, y])) = if y = x then compQ (a :: b :: (l ++ [x])) else compQ (a :: b :: (l ++ [x])) ++ [y]
    rw [compQ_cons a b (l ++ [x, y]), compQ_cons a b (l ++ [x])]
    by_cases h2 : b = a
    · rw [if_pos h2, if_pos h2]
      exact compQ_snoc (a :: l) x y
    · rw [if_neg h2, if_neg h2]
      have := compQ_snoc (b :: l) x y
      rw [List.cons_append, List.cons_append] at this
      rw [this]
      by_cases h : y = x
      · rw [if_pos h, if_pos h]
      · rw [if_neg h, if_neg h]; rfl
termination_by l.length
theorem upTo_comp (l : List Rat) : ∀ (m : Nat), m ≤ l.length → Lib.compactUpTo (l.map numS).toArray m = (compQ (l.take m)).map numS
  | 0, _ => by simp [Lib.compactUpTo, compQ]
  | m + 1, hm => by
    have hb : ∀ i (hi : i < l.length), (l.map numS).toArray[i]! = numS l[i] := fun i hi => by simp [hi]
    rw [Lib.compactUpTo_succ, upTo_comp l m (by omega), hb m (by omega)]
    have e1 : l.take (m + 1) = l.take m ++ [l[m]] := by rw [List.take_add_one, List.getElem?_eq_getElem hm]; rfl
    cases m with
    | zero =>
      rw [e1]
      have : Lib.keeps (l.map numS).toArray 0 = true := Lib.keeps_lt_one _ 0 (by omega)
      rw [if_pos this, List.take_zero, List.nil_append, compQ_nil, compQ_one]
      rfl
    | succ k =>
      have e2 : l.take (k + 1) = l.take k ++ [l[k]] := by rw [List.take_add_one, List.getElem?_eq_getElem (by omega)]; rfl
      rw [e1, e2, List.append_assoc]
      show _ = (compQ (l.take k ++ [l[k], l[k + 1]])).map numS
      rw [compQ_snoc]
      have h1 : Lib.keeps (l.map numS).toArray (k + 1) = decide (¬ l[k + 1] = l[k]) := by
        unfold Lib.keeps
        rw [decide_eq_decide, Nat.add_sub_cancel, hb (k + 1) hm, hb k (by omega)]
        constructor
        · rintro (h | h)
          · omega
          · exact fun e => h (by rw [e])
        · exact fun h => .inr fun e => h (numS_inj.1 e)
      rw [h1]
      by_cases h : l[k + 1] = l[k]
      · rw [if_pos h, if_neg (by simp [h]), List.append_nil]
      · rw [if_neg h, if_pos (by simp [h]), List.map_append]; rfl
theorem compact_comp (l : List Rat) : Lib.compact (l.map numS) = (compQ l).map numS := by
  have := upTo_comp l l.length (Nat.le_refl _)
  rw [List.take_length] at this
  rw [← this]
  unfold Lib.compact
  simp
end Go.Proofs.YteaiopkopifijaaGreatDoor
namespace Go.Proofs
open Go.Shelf
def Tryz.lays125_ren : Go.Shelf.Ren := ⟨fun | 125 => 106 | 128 => 171 | 129 => 172 | n => n, fun | 3 => 3 | 4 => 4 | 5 => 5 | 9 => 9 | 46 => 141 | 51 => 195 | 53 => 197 | n => n, fun n => n⟩
theorem Tryz.lays125 : Go.Proofs.Lays.n125 Tryz.prog Tryz.lays125_ren := {
  mixed := by kernel_rfl
  f125 := Tryz.func106.trans (congrArg some (by kernel_rfl))
  f128 := Tryz.func171.trans (congrArg some (by kernel_rfl))
  f129 := Tryz.func172.trans (congrArg some (by kernel_rfl))
  t3 := Tryz.underlying3
  a3 := Tryz.isAgg3
  z3 := Tryz.sizeOf3
  v3 := Tryz.zeroValue3
  t4 := Tryz.underlying4
  a4 := Tryz.isAgg4
  z4 := Tryz.sizeOf4
  v4 := Tryz.zeroValue4
  t5 := Tryz.underlying5
  a5 := Tryz.isAgg5
  z5 := Tryz.sizeOf5
  v5 := Tryz.zeroValue5
  t9 := Tryz.underlying9
  a9 := Tryz.isAgg9
  z9 := Tryz.sizeOf9
  v9 := Tryz.zeroValue9
  t46 := Tryz.underlying141
  a46 := Tryz.isAgg141
  z46 := Tryz.sizeOf141
  v46 := Tryz.zeroValue141
  t51 := Tryz.underlying195
  a51 := Tryz.isAgg195
  z51 := Tryz.sizeOf195
  v51 := Tryz.zeroValue195
  t53 := Tryz.underlying197
  a53 := Tryz.isAgg197
  z53 := Tryz.sizeOf197
  v53 := Tryz.zeroValue197 }
def Tryz.laysN44_ren : Go.Shelf.Ren := ⟨fun | 44 => 51 | n => n, fun | 0 => 0 | 3 => 3 | 4 => 4 | 25 => 24 | 26 => 28 | n => n, fun n => n⟩
theorem Tryz.laysN44 : Go.Proofs.SlLaysN.n44 Tryz.prog Tryz.laysN44_ren := {
  mixed := by kernel_rfl
  f44 := ⟨Tryz.f51.name, by kernel_rfl, Tryz.func51.trans (congrArg some (by kernel_rfl))⟩
  t0 := Tryz.underlying0
  a0 := Tryz.isAgg0
  z0 := Tryz.sizeOf0
  v0 := Tryz.zeroValue0
  t3 := Tryz.underlying3
  a3 := Tryz.isAgg3
  z3 := Tryz.sizeOf3
  v3 := Tryz.zeroValue3
  t4 := Tryz.underlying4
  a4 := Tryz.isAgg4
  z4 := Tryz.sizeOf4
  v4 := Tryz.zeroValue4
  t25 := Tryz.underlying24
  a25 := Tryz.isAgg24
  z25 := Tryz.sizeOf24
  v25 := Tryz.zeroValue24
  t26 := Tryz.underlying28
  a26 := Tryz.isAgg28
  z26 := Tryz.sizeOf28
  v26 := Tryz.zeroValue28
  i26 := by kernel_rfl }
end Go.Proofs
namespace Go.Proofs.YteaiopkopifijaaGreatDoor
open Go Go.RowKit Go.Am Go.Lib
set_option maxRecDepth 10000
-- BOXES 3
/-- Numbers in memory. -/
abbrev nS (l : List Rat) : List Value := l.map fun q => str (numS q)
/-- All blocks of W but one are as they were. -/
structure Keep (W W' : World) (g : Nat) : Prop where
  os : W'.os = W.os
  tape : W'.tape = W.tape
  output : W'.output = W.output
  size : W.heap.size ≤ W'.heap.size
  at_ : ∀ x, x ≠ g → x < W.heap.size → W'.heap[x]? = W.heap[x]?
theorem keep_of {W W' : World} {g : Nat} {B : Bx} {o : Obj} (hg : W.heap[g]? = some o) (hB : ∃ o', (g, o') ∈ B.blk) (hp : Hp (noHeap W) [grpB (othersL W g), B] W') : Keep W W' g := by
  have c0 : ∀ p ∈ othersL W g, W'.heap[p.1]? = some p.2 := fun p hq => (hp.own.cell 0 _ rfl p hq).1
  have old : ∀ x, x ≠ g → x < W.heap.size → W'.heap[x]? = W.heap[x]? := fun x hx hlt => by
    have h1 : W.heap[x]? = some W.heap[x] := Array.getElem?_eq_getElem hlt
    rw [h1]
    exact c0 (x, W.heap[x]) (mem_others.2 ⟨hx, h1⟩)
  refine ⟨hp.below.os, hp.below.tape, hp.below.output, ?_, old⟩
  have hlt := (Array.getElem?_eq_some_iff.1 hg).1
  by_cases e : W.heap.size - 1 = g
  · obtain ⟨o', ho⟩ := hB
    have := (Array.getElem?_eq_some_iff.1 (hp.own.cell 1 B rfl _ ho).1).1
    have h2 : g < W'.heap.size := this
    omega
  · have h1 := old (W.heap.size - 1) e (by omega)
    rw [Array.getElem?_eq_getElem (show W.heap.size - 1 < W.heap.size by omega)] at h1
    have := (Array.getElem?_eq_some_iff.1 h1).1
    omega
theorem Keep.trans {W W1 W2 : World} {g : Nat} (h : Keep W W1 g) (h' : Keep W1 W2 g) : Keep W W2 g :=
  ⟨h'.os.trans h.os, h'.tape.trans h.tape, h'.output.trans h.output, Nat.le_trans h.size h'.size, fun x hx hlt => (h'.at_ x hx (Nat.lt_of_lt_of_le hlt h.size)).trans (h.at_ x hx hlt)⟩
theorem Keep.below {W0 W W' : World} {g : Nat} (hk : Keep W W' g) (hb : Below W0.heap.size W0 W) (hg : W0.heap.size ≤ g) : Below W0.heap.size W0 W' :=
  ⟨hk.os.trans hb.os, hk.tape.trans hb.tape, hk.output.trans hb.output, Nat.le_trans hb.size hk.size, fun i hi => (hk.at_ i (by omega) (Nat.lt_of_lt_of_le hi hb.size)).trans (hb.block i hi)⟩
theorem row_pt {W0 W : World} {bxs : List Bx} (hp : Hp W0 bxs W) (k : Nat) {g : Nat} {e : TypeId} {xs A B C : List Value} {off : Nat} (hk : nth bxs k = some ⟨g, e, xs, true, none⟩) (hxs : xs = A ++ (B ++ C)) (hoff : off = A.length) : RowAt W g off B := by
  have h := RowAt.of_bx hp k hk rfl
  refine ⟨h.lt, fun m u hu => ?_⟩
  have := h.get (A.length + m) u (by
    show xs[A.length + m]? = some u
    rw [hxs, List.getElem?_append_right (by omega), Nat.add_sub_cancel_left, List.getElem?_append_left (List.getElem?_eq_some_iff.1 hu).1]
    exact hu)
  rw [Nat.zero_add, ← hoff] at this
  exact this
theorem wc_bx {r : Option Nat} {n : Nat} {P : Program} {W0 : World} {N : Nat} {D : List Deferred} {c : Code} {Q : Exit → Act → World → Prop} {env : Env} {bxs bxs' : List Bx} (e : bxs = bxs') (h : WC r n P N D c Q env (Hp W0 bxs')) : WC r n P N D c Q env (Hp W0 bxs) := e ▸ h
/-- The row of a sort. -/
abbrev rowQ (g : Nat) (l : List Rat) (junk : List Value) : Bx := ⟨g, 28, nS l ++ junk, true, none⟩
theorem take1_sort (l : List Rat) : sortQ (l.take 1) ++ l.drop 1 = l := by
  cases l with
  | nil => rfl
  | cons x l => rfl
set_option maxHeartbeats 8000000 in
theorem insN_gives (W : World) (g cap : Nat) (l : List Rat) (junk : List Value) (hn : l.length < 4611686018427387904) (hg : W.heap[g]? = some (.cells (nS l ++ junk).toArray 28 (0, 0)))
    (hf : ∀ W', Keep W W' g → MaxP W' ∧ TabP W') (hz : ∀ p ∈ l, ∀ q ∈ l, Sz2 p q) :
    Calls Tryz.prog 163 #[.slice (some ⟨g, 0, none⟩) l.length cap, .int .i64 0, .int .i64 (l.length : Nat), .func (.func 50) #[] #[]] W fun e W' => ∃ x : Unit, e = .returned ((fun _ => .tuple #[]) x) ∧ True ∧ Near W W' g ((fun _ => g) x) ((fun _ => .cells (nS (sortQ l) ++ junk).toArray 28 (0, 0)) x) := by
  have key : Calls Tryz.prog 163 [.slice (some ⟨g, 0, none⟩) l.length cap, .int .i64 0, .int .i64 (l.length : Nat), .func (.func 50) #[] #[]].toArray W fun e W' => ∃ x : Unit, e = .returned ((fun _ => .tuple #[]) x) ∧ (fun _ => True) x ∧ Below (noHeap W).heap.size (noHeap W) W' ∧ NewBx (noHeap W) W' ((fun _ => [grpB (othersL W g), rowQ g (sortQ l) junk]) x) := by
    refine calls_enterT (X := Unit) (val := fun _ => .tuple #[]) (Φ := fun _ => True) (nb := fun _ => [grpB (othersL W g), rowQ g (sortQ l) junk]) (Hp.enterT (B := rowQ g l junk) rfl hg) Tryz.func163 rfl rfl rfl ?_
    refine zA ?_
    refine zB ?_
    iterate 3 refine wl_pure Tryz.hT rfl rfl rfl ?_
    refine wl_nil ?_
    refine zE ?_
    refine zH ?_
    refine wc_loop (X := Nat) (fun i => [(0, .slice (some ⟨g, 0, none⟩) l.length cap), (1, .int .i64 0), (2, .int .i64 (l.length : Nat)), (3, .func (.func 50) #[] #[]), (8, .int .i64 (i : Nat))]) (fun i => [grpB (othersL W g), rowQ g (sortQ (l.take i) ++ l.drop i) junk])
      (fun i => 1 ≤ i ∧ (i ≤ l.length ∨ i = 1)) (fun i => l.length + 1 - i) 1 ⟨Nat.le_refl _, .inr rfl⟩ ⟨rfl, rfl, rfl, rfl, rfl, trivial⟩ [] (by rw [take1_sort]; rfl) ?_
    rintro i ⟨hi1, hi2⟩
    iterate 2 refine zA ?_
    refine zB ?_
    iterate 3 refine wl_pure Tryz.hT rfl rfl rfl ?_
    by_cases hlt : i < l.length
    rotate_left
    · refine wl_upd 14 (.bool false) rfl (congrArg Value.bool (decide_eq_false (by omega))) ?_
      refine wl_nil ?_
      refine zE ?_
      refine zS rfl ?_
      refine zJ ?_
      iterate 2 refine zK ?_
      refine zL ?_
      have e : sortQ (l.take i) ++ l.drop i = sortQ l := by rw [List.take_of_length_le (by omega), List.drop_of_length_le (by omega), List.append_nil]
      refine ne_end0 (X := Unit) (val := fun _ => .tuple #[]) (Φ := fun _ => True) (nb := fun _ => [grpB (othersL W g), rowQ g (sortQ l) junk]) (fn := Tryz.f163) Tryz.hT rfl () rfl trivial fun W1 hp => ?_
      rw [e] at hp
      exact (hp.pick (l := [grpB (othersL W g), rowQ g (sortQ l) junk]) [0, 1] (by decide) rfl).own
    refine wl_upd 14 (.bool true) rfl (congrArg Value.bool (decide_eq_true (by omega))) ?_
    refine wl_nil ?_
    refine zE ?_
    refine zR rfl ?_
    refine zI ?_
    refine zE ?_
    refine zA ?_
    refine zH ?_
    refine zA ?_
    refine zB ?_
    iterate 2 refine wl_pure Tryz.hT rfl rfl rfl ?_
    refine wl_nil ?_
    refine zE ?_
    refine zH ?_
    obtain ⟨s, hs⟩ : ∃ s, s = sortQ (l.take i) := ⟨_, rfl⟩
    obtain ⟨x, hx⟩ : ∃ x, x = l[i] := ⟨_, rfl⟩
    obtain ⟨rr, hr⟩ : ∃ rr, rr = l.drop (i + 1) := ⟨_, rfl⟩
    have hsl : s.length = i := by rw [hs, sortQ_len, List.length_take]; omega
    have hsort : s.Pairwise (· ≤ ·) := hs ▸ sortQ_sorted _
    have hdrop : l.drop i = x :: rr := by rw [hx, hr]; exact List.drop_eq_getElem_cons hlt
    have hrl : rr.length = l.length - (i + 1) := by rw [hr, List.length_drop]
    have hxl : x ∈ l := hx ▸ List.getElem_mem hlt
    have hsm : ∀ y ∈ s, y ∈ l := fun y hy => by rw [hs] at hy; exact List.mem_of_mem_take (mem_sortQ.1 hy)
    have hnext : ∀ j, j ≤ s.length → (∀ y ∈ s.drop j, x < y) → (∀ (h : 0 < j), ¬ x < s[j - 1]!) → s.take j ++ x :: s.drop j ++ rr = sortQ (l.take (i + 1)) ++ l.drop (i + 1) := fun j h1 h2 h3 => by
      rw [sortQ_take l hlt, ← hs, ← hx, ← hr, ins_done hsort h1 h2 fun h => by have := h3 h; rwa [getElem!_pos s (j - 1) (by omega)] at this]
    refine wc_loop (X := Nat) (fun j => [(0, .slice (some ⟨g, 0, none⟩) l.length cap), (1, .int .i64 0), (2, .int .i64 (l.length : Nat)), (3, .func (.func 50) #[] #[]), (8, .int .i64 (i : Nat)), (9, .int .i64 (j : Nat))]) (fun j => [grpB (othersL W g), rowQ g (s.take j ++ x :: s.drop j ++ rr) junk])
      (fun j => j ≤ s.length ∧ ∀ y ∈ s.drop j, x < y) (fun j => j) i ⟨by omega, by rw [← hsl, List.drop_length]; exact fun y hy => absurd hy List.not_mem_nil⟩ ⟨rfl, rfl, rfl, rfl, rfl, rfl, trivial⟩ [] (by rw [← hs, hdrop, ← hsl, List.take_length, List.drop_length, List.append_assoc]; rfl) ?_
    rintro j ⟨hj, hgt⟩
    have hj : j ≤ s.length := hj
    have hgt : ∀ y ∈ s.drop j, x < y := hgt
    iterate 2 refine zA ?_
    refine zT Tryz.mixed (by kernel_rfl) ?_
    iterate 3 refine wq_pure Tryz.hT rfl rfl rfl ?_
    cases j with
    | zero =>
      refine wq_upd 20 (.bool false) rfl rfl ?_
      refine wq_pure Tryz.hT rfl rfl rfl ?_
      iterate 12 refine wq_skip rfl rfl ?_
      refine wq_pure Tryz.hT rfl rfl rfl ?_
      refine wq_nil ?_
      refine wl_nil ?_
      refine zE ?_
      refine zS rfl ?_
      refine zJ ?_
      iterate 2 refine zK ?_
      refine zL ?_
      refine zN ?_
      refine zE ?_
      refine zB ?_
      iterate 2 refine wl_pure Tryz.hT rfl rfl rfl ?_
      refine wl_upd 16 (.int .i64 ((i + 1 : Nat) : Int)) rfl (congrArg (Value.int .i64) (w64_succ (by omega))) ?_
      refine wl_pure Tryz.hT rfl rfl rfl ?_
      refine wl_nil ?_
      refine ne_loop (i + 1) ⟨by show 1 ≤ i + 1; omega, .inl hlt⟩ (by show l.length + 1 - (i + 1) < l.length + 1 - i; omega) ⟨rfl, rfl, rfl, rfl, rfl, trivial⟩ [] ?_
      rw [hnext 0 hj hgt fun h => absurd h (by decide)]; rfl
    | succ m =>
      have hm : m < s.length := hj
      obtain ⟨y, hy⟩ : ∃ y, y = s[m] := ⟨_, rfl⟩
      have hyl : y ∈ l := hsm y (hy ▸ List.getElem_mem hm)
      have e1 : s.take (m + 1) = s.take m ++ [y] := by rw [List.take_add_one, List.getElem?_eq_getElem hm, hy]; rfl
      have e2 : s.drop m = y :: s.drop (m + 1) := by rw [hy]; exact List.drop_eq_getElem_cons hm
      have e3 : s[m + 1 - 1]! = y := by rw [Nat.add_sub_cancel, getElem!_pos s m hm, hy]
      have hA : (nS (s.take m)).length = m := by rw [List.length_map, List.length_take]; omega
      obtain ⟨C, hC⟩ : ∃ C, C = nS (s.drop (m + 1) ++ rr) ++ junk := ⟨_, rfl⟩
      have row1 : nS (s.take (m + 1) ++ x :: s.drop (m + 1) ++ rr) ++ junk = nS (s.take m) ++ ([str (numS y), str (numS x)] ++ C) := by rw [e1, hC]; simp [nS]
      have row2 : nS (s.take m ++ x :: s.drop m ++ rr) ++ junk = nS (s.take m) ++ ([str (numS x), str (numS y)] ++ C) := by rw [e2, hC]; simp [nS]
      refine wq_upd 20 (.bool true) rfl (congrArg Value.bool (decide_eq_true (by omega))) ?_
      iterate 4 refine wq_pure Tryz.hT rfl rfl rfl ?_
      refine wq_indexAddr Tryz.hT rfl rfl rfl rfl rfl rfl rfl (by omega) (by omega) ?_
      refine wq_load rfl rfl rfl rfl (fun W hp => RowAt.load 0 Tryz.hT rfl ((fun W1 hp => show RowAt W1 g (0 + (m + 1) * 1) [str (numS x)] from row_pt hp 1 (A := nS (s.take m) ++ [str (numS y)]) (C := C) rfl (by rw [row1]; simp) (by rw [List.length_append, hA]; simp)) W hp) rfl) ?_
      iterate 3 refine wq_pure Tryz.hT rfl rfl rfl ?_
      refine wq_upd 29 (.int .i64 (m : Nat)) rfl (congrArg (Value.int .i64) (show w64 (((m + 1 : Nat) : Int) - 1) = _ by rw [w64_id (by omega) (by omega)]; omega)) ?_
      refine wq_indexAddr Tryz.hT rfl rfl rfl rfl rfl rfl rfl (by omega) (by omega) ?_
      refine wq_load rfl rfl rfl rfl (fun W hp => RowAt.load 0 Tryz.hT rfl ((fun W1 hp => show RowAt W1 g (0 + m * 1) [str (numS y)] from row_pt hp 1 (A := nS (s.take m)) (C := [str (numS x)] ++ C) rfl (by rw [row1]; simp) (by rw [hA]; simp)) W hp) rfl) ?_
      refine wq_call1 (capt := []) rfl rfl rfl rfl rfl rfl (by kernel_rfl) (fun W1 hp => (by
        obtain ⟨hv, ht⟩ := hf W1 (keep_of hg ⟨_, List.mem_cons_self ..⟩ hp)
        exact fcompare_gives x y (hz x hxl y hyl) W1 hv ht)) ?_
      refine wq_pure Tryz.hT rfl rfl rfl ?_
      refine wq_upd 33 (.bool (decide (x < y))) rfl (congrArg Value.bool (cmpQ_lt0 x y)) ?_
      refine wq_pure Tryz.hT rfl rfl rfl ?_
      refine wq_nil ?_
      refine wl_nil ?_
      refine zE ?_
      refine wc_cond rfl (fun h => ?_) (fun h => ?_)
      rotate_left
      · have hc : ¬ x < y := of_decide_eq_false h
        refine zJ ?_
        iterate 2 refine zK ?_
        refine zL ?_
        refine zN ?_
        refine zE ?_
        refine zB ?_
        iterate 2 refine wl_pure Tryz.hT rfl rfl rfl ?_
        refine wl_upd 16 (.int .i64 ((i + 1 : Nat) : Int)) rfl (congrArg (Value.int .i64) (w64_succ (by omega))) ?_
        refine wl_pure Tryz.hT rfl rfl rfl ?_
        refine wl_nil ?_
        refine ne_loop (i + 1) ⟨by show 1 ≤ i + 1; omega, .inl hlt⟩ (by show l.length + 1 - (i + 1) < l.length + 1 - i; omega) ⟨rfl, rfl, rfl, rfl, rfl, trivial⟩ [] ?_
        rw [hnext (m + 1) hj hgt fun _ => by rw [e3]; exact hc]; rfl
      have hc : x < y := of_decide_eq_true h
      clear h
      refine wc_bx (bxs' := [grpB (othersL W g), ⟨g, 28, nS (s.take m) ++ ([str (numS y), str (numS x)] ++ C), true, none⟩]) (by rw [← row1]) ?_
      refine zI ?_
      refine zE ?_
      refine wc_seq ?_
      refine wc_block ?_
      repeat refine wc_seq ?_
      refine wc_lateY (X := Unit) [true, true, false, false, false, true, true, true, true, true, true, true, true, true, true, false, false, false] (fun _ => [(0, .slice (some ⟨g, 0, none⟩) l.length cap), (1, .int .i64 0), (2, .int .i64 (l.length : Nat)), (3, .func (.func 50) #[] #[]), (8, .int .i64 (i : Nat)), (9, .int .i64 ((m + 1 : Nat) : Int))]) (fun _ => [grpB (othersL W g), ⟨g, 28, nS (s.take m) ++ ([str (numS x), str (numS y)] ++ C), true, none⟩])
        6 [grpB (othersL W g), ⟨g, 28, nS (s.take m) ++ ([str (numS y), str (numS x)] ++ C), true, none⟩] Tryz.mixed (by kernel_rfl) ?_ ?_
      · refine wq_pure Tryz.hT rfl rfl rfl ?_
        iterate 4 refine wq_pure Tryz.hT rfl rfl rfl ?_
        refine wq_upd 44 (.int .i64 (m : Nat)) rfl (congrArg (Value.int .i64) (show w64 (((m + 1 : Nat) : Int) - 1) = _ by rw [w64_id (by omega) (by omega)]; omega)) ?_
        refine wq_indexAddr Tryz.hT rfl rfl rfl rfl rfl rfl rfl (by omega) (by omega) ?_
        refine wq_load rfl rfl rfl rfl (fun W hp => RowAt.load 0 Tryz.hT rfl ((fun W1 hp => show RowAt W1 g (0 + m * 1) [str (numS y)] from row_pt hp 1 (A := nS (s.take m)) (C := [str (numS x)] ++ C) rfl (by simp) (by rw [hA]; simp)) W hp) rfl) ?_
        iterate 2 refine wq_pure Tryz.hT rfl rfl rfl ?_
        refine wq_indexAddr Tryz.hT rfl rfl rfl rfl rfl rfl rfl (by omega) (by omega) ?_
        refine wq_load rfl rfl rfl rfl (fun W hp => RowAt.load 0 Tryz.hT rfl ((fun W1 hp => show RowAt W1 g (0 + (m + 1) * 1) [str (numS x)] from row_pt hp 1 (A := nS (s.take m) ++ [str (numS y)]) (C := C) rfl (by simp) (by rw [List.length_append, hA]; simp)) W hp) rfl) ?_
        refine wq_indexAddr Tryz.hT rfl rfl rfl rfl rfl rfl rfl (by omega) (by omega) ?_
        refine wq_wt ?_
        have h1 : splice (nS (s.take m) ++ ([str (numS y), str (numS x)] ++ C)) (0 + (m + 1) * 1) (str (numS y)).cells.toList = nS (s.take m) ++ ([str (numS y), str (numS y)] ++ C) := by
          rw [show 0 + (m + 1) * 1 = (nS (s.take m)).length + 1 by rw [hA]; omega, splice_right]; rfl
        have h2 : splice (nS (s.take m) ++ ([str (numS y), str (numS y)] ++ C)) (0 + m * 1) (str (numS x)).cells.toList = nS (s.take m) ++ ([str (numS x), str (numS y)] ++ C) := by
          rw [show 0 + m * 1 = (nS (s.take m)).length + 0 by rw [hA]; omega, splice_right]; rfl
        refine wt_step rfl rfl (by ((repeat (first | refine Weak.same ?_ | refine Weak.off rfl ?_)); exact trivial)) ?_
        refine RS.cons ?_ (RS.cons ?_ (RS.cons ?_ (RS.nil)))
        · refine wl_pure Tryz.hT rfl rfl rfl ?_
          refine wl_nil ?_
          refine ne_wt ?_
          refine wt_step rfl rfl (by ((repeat (first | refine Weak.same ?_ | refine Weak.off rfl ?_)); exact trivial)) ?_
          refine RS.cons ?_ (RS.cons ?_ (RS.nil))
          · refine wl_pure Tryz.hT rfl rfl rfl ?_
            refine wl_nil ?_
            refine ne_wt ?_
            refine wt_step rfl rfl (by ((repeat (first | refine Weak.same ?_ | refine Weak.off rfl ?_)); exact trivial)) ?_
            refine RS.cons ?_ (RS.cons ?_ (RS.nil))
            · refine wl_pure Tryz.hT rfl rfl rfl ?_
              refine wl_nil ?_
              refine ne_wt ?_
              refine wt_step rfl rfl (by ((repeat (first | refine Weak.same ?_ | refine Weak.off rfl ?_)); exact trivial)) ?_
              refine RS.cons ?_ (RS.nil)
              refine wl_storeTo 1 _ Tryz.hT rfl rfl rfl rfl rfl rfl rfl rfl rfl rfl (by show 0 + (m + 1) * 1 + 1 ≤ (nS (s.take m) ++ ([str (numS y), str (numS x)] ++ C)).length; rw [List.length_append, hA]; simp <;> omega) h1 ?_
              refine wl_nil ?_
              refine ne_wt ?_
              refine wt_stepF rfl rfl (by kernel_rfl) ?_
              refine RS.cons ?_ (RS.nil)
              refine wl_upd 41 (.int .i64 (m : Nat)) rfl (congrArg (Value.int .i64) (show w64 (((m + 1 : Nat) : Int) - 1) = _ by rw [w64_id (by omega) (by omega)]; omega)) ?_; (first | refine wl_indexAddr Tryz.hT rfl rfl rfl rfl rfl rfl rfl (by omega) (by omega) ?_ | refine wq_indexAddr Tryz.hT rfl rfl rfl rfl rfl rfl rfl (by omega) (by omega) ?_)
              refine wl_nil ?_
              refine ne_wt ?_
              refine wt_stepF rfl rfl (by kernel_rfl) ?_
              refine RS.cons ?_ (RS.nil)
              refine wl_storeTo 1 _ Tryz.hT rfl rfl rfl rfl rfl rfl rfl rfl rfl rfl (by show 0 + m * 1 + 1 ≤ (nS (s.take m) ++ ([str (numS y), str (numS y)] ++ C)).length; rw [List.length_append, hA]; simp <;> omega) h2 ?_
              refine wl_nil ?_
              refine ne_wt ?_
              refine wt_doneF rfl (by kernel_rfl) ?_
              exact ne_late () ⟨rfl, rfl, rfl, rfl, rfl, rfl, trivial⟩ [0, 1] (by decide) rfl
            · refine wl_storeTo 1 _ Tryz.hT rfl rfl rfl rfl rfl rfl rfl rfl rfl rfl (by show 0 + (m + 1) * 1 + 1 ≤ (nS (s.take m) ++ ([str (numS y), str (numS x)] ++ C)).length; rw [List.length_append, hA]; simp <;> omega) h1 ?_
              refine wl_nil ?_
              refine ne_wt ?_
              refine wt_stepF rfl rfl (by kernel_rfl) ?_
              refine RS.cons ?_ (RS.nil)
              refine wl_pure Tryz.hT rfl rfl rfl ?_
              refine wl_nil ?_
              refine ne_wt ?_
              refine wt_stepF rfl rfl (by kernel_rfl) ?_
              refine RS.cons ?_ (RS.nil)
              refine wl_upd 41 (.int .i64 (m : Nat)) rfl (congrArg (Value.int .i64) (show w64 (((m + 1 : Nat) : Int) - 1) = _ by rw [w64_id (by omega) (by omega)]; omega)) ?_; (first | refine wl_indexAddr Tryz.hT rfl rfl rfl rfl rfl rfl rfl (by omega) (by omega) ?_ | refine wq_indexAddr Tryz.hT rfl rfl rfl rfl rfl rfl rfl (by omega) (by omega) ?_)
              refine wl_nil ?_
              refine ne_wt ?_
              refine wt_stepF rfl rfl (by kernel_rfl) ?_
              refine RS.cons ?_ (RS.nil)
              refine wl_storeTo 1 _ Tryz.hT rfl rfl rfl rfl rfl rfl rfl rfl rfl rfl (by show 0 + m * 1 + 1 ≤ (nS (s.take m) ++ ([str (numS y), str (numS y)] ++ C)).length; rw [List.length_append, hA]; simp <;> omega) h2 ?_
              refine wl_nil ?_
              refine ne_wt ?_
              refine wt_doneF rfl (by kernel_rfl) ?_
              exact ne_late () ⟨rfl, rfl, rfl, rfl, rfl, rfl, trivial⟩ [0, 1] (by decide) rfl
          · refine wl_storeTo 1 _ Tryz.hT rfl rfl rfl rfl rfl rfl rfl rfl rfl rfl (by show 0 + (m + 1) * 1 + 1 ≤ (nS (s.take m) ++ ([str (numS y), str (numS x)] ++ C)).length; rw [List.length_append, hA]; simp <;> omega) h1 ?_
            refine wl_nil ?_
            refine ne_wt ?_
            refine wt_stepF rfl rfl (by kernel_rfl) ?_
            refine RS.cons ?_ (RS.nil)
            refine wl_pure Tryz.hT rfl rfl rfl ?_
            refine wl_nil ?_
            refine ne_wt ?_
            refine wt_stepF rfl rfl (by kernel_rfl) ?_
            refine RS.cons ?_ (RS.nil)
            refine wl_pure Tryz.hT rfl rfl rfl ?_
            refine wl_nil ?_
            refine ne_wt ?_
            refine wt_stepF rfl rfl (by kernel_rfl) ?_
            refine RS.cons ?_ (RS.nil)
            refine wl_upd 41 (.int .i64 (m : Nat)) rfl (congrArg (Value.int .i64) (show w64 (((m + 1 : Nat) : Int) - 1) = _ by rw [w64_id (by omega) (by omega)]; omega)) ?_; (first | refine wl_indexAddr Tryz.hT rfl rfl rfl rfl rfl rfl rfl (by omega) (by omega) ?_ | refine wq_indexAddr Tryz.hT rfl rfl rfl rfl rfl rfl rfl (by omega) (by omega) ?_)
            refine wl_nil ?_
            refine ne_wt ?_
            refine wt_stepF rfl rfl (by kernel_rfl) ?_
            refine RS.cons ?_ (RS.nil)
            refine wl_storeTo 1 _ Tryz.hT rfl rfl rfl rfl rfl rfl rfl rfl rfl rfl (by show 0 + m * 1 + 1 ≤ (nS (s.take m) ++ ([str (numS y), str (numS y)] ++ C)).length; rw [List.length_append, hA]; simp <;> omega) h2 ?_
            refine wl_nil ?_
            refine ne_wt ?_
            refine wt_doneF rfl (by kernel_rfl) ?_
            exact ne_late () ⟨rfl, rfl, rfl, rfl, rfl, rfl, trivial⟩ [0, 1] (by decide) rfl
        · refine wl_pure Tryz.hT rfl rfl rfl ?_
          refine wl_nil ?_
          refine ne_wt ?_
          refine wt_step rfl rfl (by ((repeat (first | refine Weak.same ?_ | refine Weak.off rfl ?_)); exact trivial)) ?_
          refine RS.cons ?_ (RS.cons ?_ (RS.cons ?_ (RS.nil)))
          · refine wl_pure Tryz.hT rfl rfl rfl ?_
            refine wl_nil ?_
            refine ne_wt ?_
            refine wt_step rfl rfl (by ((repeat (first | refine Weak.same ?_ | refine Weak.off rfl ?_)); exact trivial)) ?_
            refine RS.cons ?_ (RS.cons ?_ (RS.nil))
            · refine wl_pure Tryz.hT rfl rfl rfl ?_
              refine wl_nil ?_
              refine ne_wt ?_
              refine wt_step rfl rfl (by ((repeat (first | refine Weak.same ?_ | refine Weak.off rfl ?_)); exact trivial)) ?_
              refine RS.cons ?_ (RS.nil)
              refine wl_storeTo 1 _ Tryz.hT rfl rfl rfl rfl rfl rfl rfl rfl rfl rfl (by show 0 + (m + 1) * 1 + 1 ≤ (nS (s.take m) ++ ([str (numS y), str (numS x)] ++ C)).length; rw [List.length_append, hA]; simp <;> omega) h1 ?_
              refine wl_nil ?_
              refine ne_wt ?_
              refine wt_stepF rfl rfl (by kernel_rfl) ?_
              refine RS.cons ?_ (RS.nil)
              refine wl_upd 41 (.int .i64 (m : Nat)) rfl (congrArg (Value.int .i64) (show w64 (((m + 1 : Nat) : Int) - 1) = _ by rw [w64_id (by omega) (by omega)]; omega)) ?_; (first | refine wl_indexAddr Tryz.hT rfl rfl rfl rfl rfl rfl rfl (by omega) (by omega) ?_ | refine wq_indexAddr Tryz.hT rfl rfl rfl rfl rfl rfl rfl (by omega) (by omega) ?_)
              refine wl_nil ?_
              refine ne_wt ?_
              refine wt_stepF rfl rfl (by kernel_rfl) ?_
              refine RS.cons ?_ (RS.nil)
              refine wl_storeTo 1 _ Tryz.hT rfl rfl rfl rfl rfl rfl rfl rfl rfl rfl (by show 0 + m * 1 + 1 ≤ (nS (s.take m) ++ ([str (numS y), str (numS y)] ++ C)).length; rw [List.length_append, hA]; simp <;> omega) h2 ?_
              refine wl_nil ?_
              refine ne_wt ?_
              refine wt_doneF rfl (by kernel_rfl) ?_
              exact ne_late () ⟨rfl, rfl, rfl, rfl, rfl, rfl, trivial⟩ [0, 1] (by decide) rfl
            · refine wl_storeTo 1 _ Tryz.hT rfl rfl rfl rfl rfl rfl rfl rfl rfl rfl (by show 0 + (m + 1) * 1 + 1 ≤ (nS (s.take m) ++ ([str (numS y), str (numS x)] ++ C)).length; rw [List.length_append, hA]; simp <;> omega) h1 ?_
              refine wl_nil ?_
              refine ne_wt ?_
              refine wt_stepF rfl rfl (by kernel_rfl) ?_
              refine RS.cons ?_ (RS.nil)
              refine wl_pure Tryz.hT rfl rfl rfl ?_
              refine wl_nil ?_
              refine ne_wt ?_
              refine wt_stepF rfl rfl (by kernel_rfl) ?_
              refine RS.cons ?_ (RS.nil)
              refine wl_upd 41 (.int .i64 (m : Nat)) rfl (congrArg (Value.int .i64) (show w64 (((m + 1 : Nat) : Int) - 1) = _ by rw [w64_id (by omega) (by omega)]; omega)) ?_; (first | refine wl_indexAddr Tryz.hT rfl rfl rfl rfl rfl rfl rfl (by omega) (by omega) ?_ | refine wq_indexAddr Tryz.hT rfl rfl rfl rfl rfl rfl rfl (by omega) (by omega) ?_)
              refine wl_nil ?_
              refine ne_wt ?_
              refine wt_stepF rfl rfl (by kernel_rfl) ?_
              refine RS.cons ?_ (RS.nil)
              refine wl_storeTo 1 _ Tryz.hT rfl rfl rfl rfl rfl rfl rfl rfl rfl rfl (by show 0 + m * 1 + 1 ≤ (nS (s.take m) ++ ([str (numS y), str (numS y)] ++ C)).length; rw [List.length_append, hA]; simp <;> omega) h2 ?_
              refine wl_nil ?_
              refine ne_wt ?_
              refine wt_doneF rfl (by kernel_rfl) ?_
              exact ne_late () ⟨rfl, rfl, rfl, rfl, rfl, rfl, trivial⟩ [0, 1] (by decide) rfl
          · refine wl_pure Tryz.hT rfl rfl rfl ?_
            refine wl_nil ?_
            refine ne_wt ?_
            refine wt_step rfl rfl (by ((repeat (first | refine Weak.same ?_ | refine Weak.off rfl ?_)); exact trivial)) ?_
            refine RS.cons ?_ (RS.cons ?_ (RS.nil))
            · refine wl_pure Tryz.hT rfl rfl rfl ?_
              refine wl_nil ?_
              refine ne_wt ?_
              refine wt_step rfl rfl (by ((repeat (first | refine Weak.same ?_ | refine Weak.off rfl ?_)); exact trivial)) ?_
              refine RS.cons ?_ (RS.nil)
              refine wl_storeTo 1 _ Tryz.hT rfl rfl rfl rfl rfl rfl rfl rfl rfl rfl (by show 0 + (m + 1) * 1 + 1 ≤ (nS (s.take m) ++ ([str (numS y), str (numS x)] ++ C)).length; rw [List.length_append, hA]; simp <;> omega) h1 ?_
              refine wl_nil ?_
              refine ne_wt ?_
              refine wt_stepF rfl rfl (by kernel_rfl) ?_
              refine RS.cons ?_ (RS.nil)
              refine wl_upd 41 (.int .i64 (m : Nat)) rfl (congrArg (Value.int .i64) (show w64 (((m + 1 : Nat) : Int) - 1) = _ by rw [w64_id (by omega) (by omega)]; omega)) ?_; (first | refine wl_indexAddr Tryz.hT rfl rfl rfl rfl rfl rfl rfl (by omega) (by omega) ?_ | refine wq_indexAddr Tryz.hT rfl rfl rfl rfl rfl rfl rfl (by omega) (by omega) ?_)
              refine wl_nil ?_
              refine ne_wt ?_
              refine wt_stepF rfl rfl (by kernel_rfl) ?_
              refine RS.cons ?_ (RS.nil)
              refine wl_storeTo 1 _ Tryz.hT rfl rfl rfl rfl rfl rfl rfl rfl rfl rfl (by show 0 + m * 1 + 1 ≤ (nS (s.take m) ++ ([str (numS y), str (numS y)] ++ C)).length; rw [List.length_append, hA]; simp <;> omega) h2 ?_
              refine wl_nil ?_
              refine ne_wt ?_
              refine wt_doneF rfl (by kernel_rfl) ?_
              exact ne_late () ⟨rfl, rfl, rfl, rfl, rfl, rfl, trivial⟩ [0, 1] (by decide) rfl
            · refine wl_storeTo 1 _ Tryz.hT rfl rfl rfl rfl rfl rfl rfl rfl rfl rfl (by show 0 + (m + 1) * 1 + 1 ≤ (nS (s.take m) ++ ([str (numS y), str (numS x)] ++ C)).length; rw [List.length_append, hA]; simp <;> omega) h1 ?_
              refine wl_nil ?_
              refine ne_wt ?_
              refine wt_stepF rfl rfl (by kernel_rfl) ?_
              refine RS.cons ?_ (RS.nil)
              refine wl_pure Tryz.hT rfl rfl rfl ?_
              refine wl_nil ?_
              refine ne_wt ?_
              refine wt_stepF rfl rfl (by kernel_rfl) ?_
              refine RS.cons ?_ (RS.nil)
              refine wl_upd 41 (.int .i64 (m : Nat)) rfl (congrArg (Value.int .i64) (show w64 (((m + 1 : Nat) : Int) - 1) = _ by rw [w64_id (by omega) (by omega)]; omega)) ?_; (first | refine wl_indexAddr Tryz.hT rfl rfl rfl rfl rfl rfl rfl (by omega) (by omega) ?_ | refine wq_indexAddr Tryz.hT rfl rfl rfl rfl rfl rfl rfl (by omega) (by omega) ?_)
              refine wl_nil ?_
              refine ne_wt ?_
              refine wt_stepF rfl rfl (by kernel_rfl) ?_
              refine RS.cons ?_ (RS.nil)
              refine wl_storeTo 1 _ Tryz.hT rfl rfl rfl rfl rfl rfl rfl rfl rfl rfl (by show 0 + m * 1 + 1 ≤ (nS (s.take m) ++ ([str (numS y), str (numS y)] ++ C)).length; rw [List.length_append, hA]; simp <;> omega) h2 ?_
              refine wl_nil ?_
              refine ne_wt ?_
              refine wt_doneF rfl (by kernel_rfl) ?_
              exact ne_late () ⟨rfl, rfl, rfl, rfl, rfl, rfl, trivial⟩ [0, 1] (by decide) rfl
          · refine wl_storeTo 1 _ Tryz.hT rfl rfl rfl rfl rfl rfl rfl rfl rfl rfl (by show 0 + (m + 1) * 1 + 1 ≤ (nS (s.take m) ++ ([str (numS y), str (numS x)] ++ C)).length; rw [List.length_append, hA]; simp <;> omega) h1 ?_
            refine wl_nil ?_
            refine ne_wt ?_
            refine wt_stepF rfl rfl (by kernel_rfl) ?_
            refine RS.cons ?_ (RS.cons ?_ (RS.nil))
            · refine wl_pure Tryz.hT rfl rfl rfl ?_
              refine wl_nil ?_
              refine ne_wt ?_
              refine wt_stepF rfl rfl (by kernel_rfl) ?_
              refine RS.cons ?_ (RS.nil)
              refine wl_pure Tryz.hT rfl rfl rfl ?_
              refine wl_nil ?_
              refine ne_wt ?_
              refine wt_stepF rfl rfl (by kernel_rfl) ?_
              refine RS.cons ?_ (RS.nil)
              refine wl_upd 41 (.int .i64 (m : Nat)) rfl (congrArg (Value.int .i64) (show w64 (((m + 1 : Nat) : Int) - 1) = _ by rw [w64_id (by omega) (by omega)]; omega)) ?_; (first | refine wl_indexAddr Tryz.hT rfl rfl rfl rfl rfl rfl rfl (by omega) (by omega) ?_ | refine wq_indexAddr Tryz.hT rfl rfl rfl rfl rfl rfl rfl (by omega) (by omega) ?_)
              refine wl_nil ?_
              refine ne_wt ?_
              refine wt_stepF rfl rfl (by kernel_rfl) ?_
              refine RS.cons ?_ (RS.nil)
              refine wl_storeTo 1 _ Tryz.hT rfl rfl rfl rfl rfl rfl rfl rfl rfl rfl (by show 0 + m * 1 + 1 ≤ (nS (s.take m) ++ ([str (numS y), str (numS y)] ++ C)).length; rw [List.length_append, hA]; simp <;> omega) h2 ?_
              refine wl_nil ?_
              refine ne_wt ?_
              refine wt_doneF rfl (by kernel_rfl) ?_
              exact ne_late () ⟨rfl, rfl, rfl, rfl, rfl, rfl, trivial⟩ [0, 1] (by decide) rfl
            · refine wl_pure Tryz.hT rfl rfl rfl ?_
              refine wl_nil ?_
              refine ne_wt ?_
              refine wt_stepF rfl rfl (by kernel_rfl) ?_
              refine RS.cons ?_ (RS.nil)
              refine wl_pure Tryz.hT rfl rfl rfl ?_
              refine wl_nil ?_
              refine ne_wt ?_
              refine wt_stepF rfl rfl (by kernel_rfl) ?_
              refine RS.cons ?_ (RS.nil)
              refine wl_upd 41 (.int .i64 (m : Nat)) rfl (congrArg (Value.int .i64) (show w64 (((m + 1 : Nat) : Int) - 1) = _ by rw [w64_id (by omega) (by omega)]; omega)) ?_; (first | refine wl_indexAddr Tryz.hT rfl rfl rfl rfl rfl rfl rfl (by omega) (by omega) ?_ | refine wq_indexAddr Tryz.hT rfl rfl rfl rfl rfl rfl rfl (by omega) (by omega) ?_)
              refine wl_nil ?_
              refine ne_wt ?_
              refine wt_stepF rfl rfl (by kernel_rfl) ?_
              refine RS.cons ?_ (RS.nil)
              refine wl_storeTo 1 _ Tryz.hT rfl rfl rfl rfl rfl rfl rfl rfl rfl rfl (by show 0 + m * 1 + 1 ≤ (nS (s.take m) ++ ([str (numS y), str (numS y)] ++ C)).length; rw [List.length_append, hA]; simp <;> omega) h2 ?_
              refine wl_nil ?_
              refine ne_wt ?_
              refine wt_doneF rfl (by kernel_rfl) ?_
              exact ne_late () ⟨rfl, rfl, rfl, rfl, rfl, rfl, trivial⟩ [0, 1] (by decide) rfl
        · refine wl_storeTo 1 _ Tryz.hT rfl rfl rfl rfl rfl rfl rfl rfl rfl rfl (by show 0 + (m + 1) * 1 + 1 ≤ (nS (s.take m) ++ ([str (numS y), str (numS x)] ++ C)).length; rw [List.length_append, hA]; simp <;> omega) h1 ?_
          refine wl_nil ?_
          refine ne_wt ?_
          refine wt_stepF rfl rfl (by kernel_rfl) ?_
          refine RS.cons ?_ (RS.cons ?_ (RS.nil))
          · refine wl_pure Tryz.hT rfl rfl rfl ?_
            refine wl_nil ?_
            refine ne_wt ?_
            refine wt_stepF rfl rfl (by kernel_rfl) ?_
            refine RS.cons ?_ (RS.nil)
            refine wl_pure Tryz.hT rfl rfl rfl ?_
            refine wl_nil ?_
            refine ne_wt ?_
            refine wt_stepF rfl rfl (by kernel_rfl) ?_
            refine RS.cons ?_ (RS.nil)
            refine wl_pure Tryz.hT rfl rfl rfl ?_
            refine wl_nil ?_
            refine ne_wt ?_
            refine wt_stepF rfl rfl (by kernel_rfl) ?_
            refine RS.cons ?_ (RS.nil)
            refine wl_upd 41 (.int .i64 (m : Nat)) rfl (congrArg (Value.int .i64) (show w64 (((m + 1 : Nat) : Int) - 1) = _ by rw [w64_id (by omega) (by omega)]; omega)) ?_; (first | refine wl_indexAddr Tryz.hT rfl rfl rfl rfl rfl rfl rfl (by omega) (by omega) ?_ | refine wq_indexAddr Tryz.hT rfl rfl rfl rfl rfl rfl rfl (by omega) (by omega) ?_)
            refine wl_nil ?_
            refine ne_wt ?_
            refine wt_stepF rfl rfl (by kernel_rfl) ?_
            refine RS.cons ?_ (RS.nil)
            refine wl_storeTo 1 _ Tryz.hT rfl rfl rfl rfl rfl rfl rfl rfl rfl rfl (by show 0 + m * 1 + 1 ≤ (nS (s.take m) ++ ([str (numS y), str (numS y)] ++ C)).length; rw [List.length_append, hA]; simp <;> omega) h2 ?_
            refine wl_nil ?_
            refine ne_wt ?_
            refine wt_doneF rfl (by kernel_rfl) ?_
            exact ne_late () ⟨rfl, rfl, rfl, rfl, rfl, rfl, trivial⟩ [0, 1] (by decide) rfl
          · refine wl_pure Tryz.hT rfl rfl rfl ?_
            refine wl_nil ?_
            refine ne_wt ?_
            refine wt_stepF rfl rfl (by kernel_rfl) ?_
            refine RS.cons ?_ (RS.cons ?_ (RS.nil))
            · refine wl_pure Tryz.hT rfl rfl rfl ?_
              refine wl_nil ?_
              refine ne_wt ?_
              refine wt_stepF rfl rfl (by kernel_rfl) ?_
              refine RS.cons ?_ (RS.nil)
              refine wl_pure Tryz.hT rfl rfl rfl ?_
              refine wl_nil ?_
              refine ne_wt ?_
              refine wt_stepF rfl rfl (by kernel_rfl) ?_
              refine RS.cons ?_ (RS.nil)
              refine wl_upd 41 (.int .i64 (m : Nat)) rfl (congrArg (Value.int .i64) (show w64 (((m + 1 : Nat) : Int) - 1) = _ by rw [w64_id (by omega) (by omega)]; omega)) ?_; (first | refine wl_indexAddr Tryz.hT rfl rfl rfl rfl rfl rfl rfl (by omega) (by omega) ?_ | refine wq_indexAddr Tryz.hT rfl rfl rfl rfl rfl rfl rfl (by omega) (by omega) ?_)
              refine wl_nil ?_
              refine ne_wt ?_
              refine wt_stepF rfl rfl (by kernel_rfl) ?_
              refine RS.cons ?_ (RS.nil)
              refine wl_storeTo 1 _ Tryz.hT rfl rfl rfl rfl rfl rfl rfl rfl rfl rfl (by show 0 + m * 1 + 1 ≤ (nS (s.take m) ++ ([str (numS y), str (numS y)] ++ C)).length; rw [List.length_append, hA]; simp <;> omega) h2 ?_
              refine wl_nil ?_
              refine ne_wt ?_
              refine wt_doneF rfl (by kernel_rfl) ?_
              exact ne_late () ⟨rfl, rfl, rfl, rfl, rfl, rfl, trivial⟩ [0, 1] (by decide) rfl
            · refine wl_pure Tryz.hT rfl rfl rfl ?_
              refine wl_nil ?_
              refine ne_wt ?_
              refine wt_stepF rfl rfl (by kernel_rfl) ?_
              refine RS.cons ?_ (RS.nil)
              refine wl_pure Tryz.hT rfl rfl rfl ?_
              refine wl_nil ?_
              refine ne_wt ?_
              refine wt_stepF rfl rfl (by kernel_rfl) ?_
              refine RS.cons ?_ (RS.nil)
              refine wl_upd 41 (.int .i64 (m : Nat)) rfl (congrArg (Value.int .i64) (show w64 (((m + 1 : Nat) : Int) - 1) = _ by rw [w64_id (by omega) (by omega)]; omega)) ?_; (first | refine wl_indexAddr Tryz.hT rfl rfl rfl rfl rfl rfl rfl (by omega) (by omega) ?_ | refine wq_indexAddr Tryz.hT rfl rfl rfl rfl rfl rfl rfl (by omega) (by omega) ?_)
              refine wl_nil ?_
              refine ne_wt ?_
              refine wt_stepF rfl rfl (by kernel_rfl) ?_
              refine RS.cons ?_ (RS.nil)
              refine wl_storeTo 1 _ Tryz.hT rfl rfl rfl rfl rfl rfl rfl rfl rfl rfl (by show 0 + m * 1 + 1 ≤ (nS (s.take m) ++ ([str (numS y), str (numS y)] ++ C)).length; rw [List.length_append, hA]; simp <;> omega) h2 ?_
              refine wl_nil ?_
              refine ne_wt ?_
              refine wt_doneF rfl (by kernel_rfl) ?_
              exact ne_late () ⟨rfl, rfl, rfl, rfl, rfl, rfl, trivial⟩ [0, 1] (by decide) rfl
      intro _
      refine zN ?_
      refine zE ?_
      refine zB ?_
      iterate 2 refine wl_pure Tryz.hT rfl rfl rfl ?_
      refine wl_upd 36 (.int .i64 (m : Nat)) rfl (congrArg (Value.int .i64) (show w64 (((m + 1 : Nat) : Int) - 1) = _ by rw [w64_id (by omega) (by omega)]; omega)) ?_
      refine wl_pure Tryz.hT rfl rfl rfl ?_
      refine wl_nil ?_
      refine ne_loop m ⟨by show m ≤ s.length; omega, fun z hz => ?_⟩ (by show m < m + 1; omega) ⟨rfl, rfl, rfl, rfl, rfl, rfl, trivial⟩ [] (by rw [← row2]; rfl)
      rw [e2] at hz
      rcases List.mem_cons.1 hz with rfl | hz
      · exact hc
      · exact hgt z hz
  refine key.mono ?_
  rintro e W' ⟨x, he, _, hb, hn'⟩
  exact ⟨x, he, trivial, near_of hg rfl hb hn'⟩
set_option maxHeartbeats 4000000 in
theorem pdqN_gives (W : World) (g cap : Nat) (l : List Rat) (junk : List Value) (z : Int) (hn : l.length ≤ 12) (hg : W.heap[g]? = some (.cells (nS l ++ junk).toArray 28 (0, 0)))
    (hf : ∀ W', Keep W W' g → MaxP W' ∧ TabP W') (hz : ∀ p ∈ l, ∀ q ∈ l, Sz2 p q) :
    Calls Tryz.prog 105 #[.slice (some ⟨g, 0, none⟩) l.length cap, .int .i64 0, .int .i64 (l.length : Nat), .int .i64 z, .func (.func 50) #[] #[]] W fun e W' => ∃ x : Unit, e = .returned ((fun _ => .tuple #[]) x) ∧ True ∧ Near W W' g ((fun _ => g) x) ((fun _ => .cells (nS (sortQ l) ++ junk).toArray 28 (0, 0)) x) := by
  have key : Calls Tryz.prog 105 [.slice (some ⟨g, 0, none⟩) l.length cap, .int .i64 0, .int .i64 (l.length : Nat), .int .i64 z, .func (.func 50) #[] #[]].toArray W fun e W' => ∃ x : Unit, e = .returned ((fun _ => .tuple #[]) x) ∧ (fun _ => True) x ∧ Below (noHeap W).heap.size (noHeap W) W' ∧ NewBx (noHeap W) W' ((fun _ => [grpB (othersL W g), rowQ g (sortQ l) junk]) x) := by
    refine calls_enterT (X := Unit) (val := fun _ => .tuple #[]) (Φ := fun _ => True) (nb := fun _ => [grpB (othersL W g), rowQ g (sortQ l) junk]) (Hp.enterT (B := rowQ g l junk) rfl hg) Tryz.func105 rfl rfl rfl ?_
    refine zA ?_
    refine zB ?_
    refine wl_pure Tryz.hT rfl rfl rfl ?_
    refine wl_nil ?_
    refine zE ?_
    refine zA ?_
    refine zB ?_
    refine wl_pure Tryz.hT rfl rfl rfl ?_
    refine wl_nil ?_
    refine zE ?_
    refine zH ?_
    refine wc_loop (X := Unit) (fun _ => [(0, .slice (some ⟨g, 0, none⟩) l.length cap), (1, .int .i64 0), (2, .int .i64 (l.length : Nat)), (3, .int .i64 z), (4, .func (.func 50) #[] #[])]) (fun _ => [grpB (othersL W g), rowQ g l junk]) (fun _ => True) (fun _ => 0) () trivial ⟨rfl, rfl, rfl, rfl, rfl, trivial⟩ [] rfl ?_
    intro _ _
    refine zH ?_
    refine zA ?_
    refine zB ?_
    iterate 3 refine wl_pure Tryz.hT rfl rfl rfl ?_
    refine wl_upd 23 (.int .i64 (l.length : Nat)) rfl (congrArg (Value.int .i64) (show w64 ((l.length : Nat) - 0) = _ by rw [w64_id (by omega) (by omega)]; omega)) ?_
    refine wl_pure Tryz.hT rfl rfl rfl ?_
    refine wl_nil ?_
    refine zE ?_
    iterate 2 refine zA ?_
    refine zB ?_
    iterate 2 refine wl_pure Tryz.hT rfl rfl rfl ?_
    refine wl_upd 25 (.bool true) rfl (congrArg Value.bool (decide_eq_true (by omega))) ?_
    refine wl_nil ?_
    refine zE ?_
    refine zR rfl ?_
    refine zA ?_
    refine zB ?_
    iterate 4 refine wl_pure Tryz.hT rfl rfl rfl ?_
    refine wl_callN (X := Unit) (val := fun _ => .tuple #[]) (Φ := fun _ => True) (capt := []) 1 (B := rowQ g l junk) (L1 := []) (L2 := []) (b := g) (ob := .cells (nS l ++ junk).toArray 28 (0, 0)) (fun _ => rowQ g (sortQ l) junk) (g' := fun _ => g) (o' := fun _ => .cells (nS (sortQ l) ++ junk).toArray 28 (0, 0))
      rfl rfl rfl rfl rfl rfl (by kernel_rfl) rfl rfl (fun _ _ => rfl) (fun W1 hp => insN_gives W1 g cap l junk (by omega) (hp.own.cell 1 _ rfl (g, .cells (nS l ++ junk).toArray 28 (0, 0)) (List.mem_cons_self ..)).1 (fun W2 hk => hf W2 ((keep_of hg ⟨_, List.mem_cons_self ..⟩ hp).trans hk)) hz) (fun _ _ => ?_)
    refine wl_nil ?_
    refine zE ?_
    refine zO ?_
    refine zP ?_
    refine zQ ?_
    refine zP ?_
    refine zQ ?_
    refine ne_ret0 (X := Unit) (val := fun _ => .tuple #[]) (Φ := fun _ => True) (nb := fun _ => [grpB (othersL W g), rowQ g (sortQ l) junk]) (fn := Tryz.f105) Tryz.hT rfl () rfl trivial fun W1 hp => ?_
    exact (hp.pick (l := [grpB (othersL W g), rowQ g (sortQ l) junk]) [0, 1] (by decide) rfl).own
  refine key.mono ?_
  rintro e W' ⟨x, he, _, hb, hn'⟩
  exact ⟨x, he, trivial, near_of hg rfl hb hn'⟩
theorem ins0_gives (W : World) (p : Option Addr) (cap : Nat) : CallsR Tryz.prog 163 #[.slice p 0 cap, .int .i64 0, .int .i64 ((0 : Nat) : Int), .func (.func 50) #[] #[]] W (fun _ : Unit => .tuple #[]) (fun _ => True) (fun _ => []) := by
  refine calls_enter (args := [.slice p 0 cap, .int .i64 0, .int .i64 ((0 : Nat) : Int), .func (.func 50) #[] #[]]) Tryz.func163 rfl rfl rfl ?_
  refine zA ?_
  refine zB ?_
  iterate 3 refine wl_pure Tryz.hT rfl rfl rfl ?_
  refine wl_nil ?_
  refine zE ?_
  refine zH ?_
  refine wc_loop (X := Unit) (fun _ => [(0, .slice p 0 cap), (1, .int .i64 0), (2, .int .i64 ((0 : Nat) : Int)), (3, .func (.func 50) #[] #[]), (8, .int .i64 1)]) (fun _ => []) (fun _ => True) (fun _ => 0) () trivial ⟨rfl, rfl, rfl, rfl, rfl, trivial⟩ [] rfl ?_
  intro _ _
  iterate 2 refine zA ?_
  refine zB ?_
  iterate 3 refine wl_pure Tryz.hT rfl rfl rfl ?_
  refine wl_upd 14 (.bool false) rfl rfl ?_
  refine wl_nil ?_
  refine zE ?_
  refine zS rfl ?_
  refine zJ ?_
  iterate 2 refine zK ?_
  refine zL ?_
  exact ne_end0 (X := Unit) (val := fun _ => .tuple #[]) (Φ := fun _ => True) (nb := fun _ => []) (fn := Tryz.f163) Tryz.hT rfl () rfl trivial fun W _ => NewBx.nil _ _
theorem pdq0_gives (W : World) (p : Option Addr) (cap : Nat) (z : Int) : CallsR Tryz.prog 105 #[.slice p 0 cap, .int .i64 0, .int .i64 ((0 : Nat) : Int), .int .i64 z, .func (.func 50) #[] #[]] W (fun _ : Unit => .tuple #[]) (fun _ => True) (fun _ => []) := by
  refine calls_enter (args := [.slice p 0 cap, .int .i64 0, .int .i64 ((0 : Nat) : Int), .int .i64 z, .func (.func 50) #[] #[]]) Tryz.func105 rfl rfl rfl ?_
  refine zA ?_
  refine zB ?_
  refine wl_pure Tryz.hT rfl rfl rfl ?_
  refine wl_nil ?_
  refine zE ?_
  refine zA ?_
  refine zB ?_
  refine wl_pure Tryz.hT rfl rfl rfl ?_
  refine wl_nil ?_
  refine zE ?_
  refine zH ?_
  refine wc_loop (X := Unit) (fun _ => [(0, .slice p 0 cap), (1, .int .i64 0), (2, .int .i64 ((0 : Nat) : Int)), (3, .int .i64 z), (4, .func (.func 50) #[] #[])]) (fun _ => []) (fun _ => True) (fun _ => 0) () trivial ⟨rfl, rfl, rfl, rfl, rfl, trivial⟩ [] rfl ?_
  intro _ _
  refine zH ?_
  refine zA ?_
  refine zB ?_
  iterate 3 refine wl_pure Tryz.hT rfl rfl rfl ?_
  refine wl_upd 23 (.int .i64 ((0 : Nat) : Int)) rfl rfl ?_
  refine wl_pure Tryz.hT rfl rfl rfl ?_
  refine wl_nil ?_
  refine zE ?_
  iterate 2 refine zA ?_
  refine zB ?_
  iterate 2 refine wl_pure Tryz.hT rfl rfl rfl ?_
  refine wl_upd 25 (.bool true) rfl rfl ?_
  refine wl_nil ?_
  refine zE ?_
  refine zR rfl ?_
  refine zA ?_
  refine zB ?_
  iterate 4 refine wl_pure Tryz.hT rfl rfl rfl ?_
  refine wl_call1 (capt := []) rfl rfl rfl rfl rfl rfl (by kernel_rfl) (fun W _ => ins0_gives W p cap) ?_
  refine wl_nil ?_
  refine zE ?_
  refine zO ?_
  refine zP ?_
  refine zQ ?_
  refine zP ?_
  refine zQ ?_
  exact ne_ret0 (X := Unit) (val := fun _ => .tuple #[]) (Φ := fun _ => True) (nb := fun _ => []) (fn := Tryz.f105) Tryz.hT rfl () rfl trivial fun W _ => NewBx.nil _ _
theorem bitLen_gives (x : Nat) (h : x ≤ 18446744073709551615) (W : World) : CallsR Tryz.prog 106 #[.int .u64 (x : Nat)] W (fun _ : Unit => .int .i64 (Lib.bitLen x)) (fun _ => True) (fun _ => []) := by
  refine CallsR.of1 ((Go.Proofs.Any.bits_Len (P := Tryz.prog) (ρ := Tryz.lays125_ren) Tryz.lays125 (x : Int) W (by omega) (by omega)).mono ?_)
  rintro e w' ⟨rfl, rfl⟩
  exact ⟨rfl, Below.refl _ _⟩
theorem u64_nat {n : Nat} (h : n ≤ 12) : IntKind.u64.wrap (n : Nat) = (n : Int) := by
  simp only [IntKind.wrap, IntKind.signed, IntKind.bits]
  simp
  omega
set_option maxHeartbeats 4000000 in
theorem sortFn_gives (W : World) (g cap : Nat) (l : List Rat) (junk : List Value) (hn : l.length ≤ 12) (hg : W.heap[g]? = some (.cells (nS l ++ junk).toArray 28 (0, 0)))
    (hf : ∀ W', Keep W W' g → MaxP W' ∧ TabP W') (hz : ∀ p ∈ l, ∀ q ∈ l, Sz2 p q) :
    Calls Tryz.prog 49 #[.slice (some ⟨g, 0, none⟩) l.length cap, .func (.func 50) #[] #[]] W fun e W' => ∃ x : Unit, e = .returned ((fun _ => .tuple #[]) x) ∧ True ∧ Near W W' g ((fun _ => g) x) ((fun _ => .cells (nS (sortQ l) ++ junk).toArray 28 (0, 0)) x) := by
  have key : Calls Tryz.prog 49 [.slice (some ⟨g, 0, none⟩) l.length cap, .func (.func 50) #[] #[]].toArray W fun e W' => ∃ x : Unit, e = .returned ((fun _ => .tuple #[]) x) ∧ (fun _ => True) x ∧ Below (noHeap W).heap.size (noHeap W) W' ∧ NewBx (noHeap W) W' ((fun _ => [grpB (othersL W g), rowQ g (sortQ l) junk]) x) := by
    refine calls_enterT (X := Unit) (val := fun _ => .tuple #[]) (Φ := fun _ => True) (nb := fun _ => [grpB (othersL W g), rowQ g (sortQ l) junk]) (Hp.enterT (B := rowQ g l junk) rfl hg) Tryz.func49 rfl rfl rfl ?_
    refine zA ?_
    refine zB ?_
    iterate 3 refine wl_pure Tryz.hT rfl rfl rfl ?_
    refine wl_nil ?_
    refine zE ?_
    refine zB ?_
    iterate 3 refine wl_pure Tryz.hT rfl rfl rfl ?_
    refine wl_cvA (k := .u64) (kt := .i64) (by kernel_rfl) (by kernel_rfl) rfl rfl rfl rfl ?_
    refine wl_upd 10 (.int .u64 (l.length : Nat)) rfl (congrArg (Value.int .u64) (u64_nat hn)) ?_
    refine wl_call1 (capt := []) rfl rfl rfl rfl rfl rfl (by kernel_rfl) (fun W _ => bitLen_gives l.length (by omega) W) ?_
    refine wl_pure Tryz.hT rfl rfl rfl ?_
    refine wl_callN (X := Unit) (val := fun _ => .tuple #[]) (Φ := fun _ => True) (capt := []) 1 (B := rowQ g l junk) (L1 := []) (L2 := []) (b := g) (ob := .cells (nS l ++ junk).toArray 28 (0, 0)) (fun _ => rowQ g (sortQ l) junk) (g' := fun _ => g) (o' := fun _ => .cells (nS (sortQ l) ++ junk).toArray 28 (0, 0))
      rfl rfl rfl rfl rfl rfl (by kernel_rfl) rfl rfl (fun _ _ => rfl) (fun W1 hp => pdqN_gives W1 g cap l junk _ hn (hp.own.cell 1 _ rfl (g, .cells (nS l ++ junk).toArray 28 (0, 0)) (List.mem_cons_self ..)).1 (fun W2 hk => hf W2 ((keep_of hg ⟨_, List.mem_cons_self ..⟩ hp).trans hk)) hz) (fun _ _ => ?_)
    refine wl_nil ?_
    refine ne_end0 (X := Unit) (val := fun _ => .tuple #[]) (Φ := fun _ => True) (nb := fun _ => [grpB (othersL W g), rowQ g (sortQ l) junk]) (fn := Tryz.f49) Tryz.hT rfl () rfl trivial fun W1 hp => ?_
    exact (hp.pick (l := [grpB (othersL W g), rowQ g (sortQ l) junk]) [0, 1] (by decide) rfl).own
  refine key.mono ?_
  rintro e W' ⟨x, he, _, hb, hn'⟩
  exact ⟨x, he, trivial, near_of hg rfl hb hn'⟩
end Go.Proofs.YteaiopkopifijaaGreatDoor
