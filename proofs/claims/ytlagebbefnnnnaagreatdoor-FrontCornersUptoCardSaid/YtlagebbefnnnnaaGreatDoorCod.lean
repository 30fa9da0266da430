/-
  Lemmas that the theorem frontCorners_upto_card needs (part 4 of 6).
-/
import Derived.Test.YtlagebbefnnnnaaGreatDoorCoc
namespace Go.Proofs.YtlagebbefnnnnaaGreatDoor
open Go Go.RowKit Go.Am Go.Lib
set_option maxRecDepth 10000
-- BOXES 3
/-- What read returns: the parts, or the error. -/
def rdR (a : List UInt8) : (List UInt8 × List UInt8) × Int := match frm a with
  | none => (([], []), 11)
  | some (z, d) => if z.natAbs < ten300 ∧ d < ten300 then (if Nat.gcd z.natAbs d = 1 then ((itoa z, decDigits d), 0) else (([], []), 11)) else (([], []), 4)
def rdV (a : List UInt8) : Value := .tuple #[parA (rdR a).1.1 (rdR a).1.2, .int .i64 (rdR a).2]
theorem rd_none {a : List UInt8} (h : frm a = none) : rdV a = .tuple #[parA [] [], .int .i64 11] := by
  have e : rdR a = (([], []), 11) := by unfold rdR; rw [h]
  rw [rdV, e]
theorem rd_long {a : List UInt8} {z : Int} {d : Nat} (h : frm a = some (z, d)) (hl : ¬ (z.natAbs < ten300 ∧ d < ten300)) : rdV a = .tuple #[parA [] [], .int .i64 4] := by
  have e : rdR a = (([], []), 4) := by unfold rdR; rw [h]; exact if_neg hl
  rw [rdV, e]
theorem rd_gcd {a : List UInt8} {z : Int} {d : Nat} (h : frm a = some (z, d)) (hl : z.natAbs < ten300 ∧ d < ten300) (hg : Nat.gcd z.natAbs d ≠ 1) : rdV a = .tuple #[parA [] [], .int .i64 11] := by
  have e : rdR a = (([], []), 11) := by unfold rdR; rw [h]; exact (if_pos hl).trans (if_neg hg)
  rw [rdV, e]
theorem rd_ok {a : List UInt8} {z : Int} {d : Nat} (h : frm a = some (z, d)) (hl : z.natAbs < ten300 ∧ d < ten300) (hg : Nat.gcd z.natAbs d = 1) : rdV a = .tuple #[parA (itoa z) (decDigits d), .int .i64 0] := by
  have e : rdR a = ((itoa z, decDigits d), 0) := by unfold rdR; rw [h]; exact (if_pos hl).trans (if_pos hg)
  rw [rdV, e]
theorem frm_len {a : List UInt8} {z : Int} {d : Nat} (h : frm a = some (z, d)) : (decDigits z.natAbs).length ≤ a.length ∧ (decDigits d).length ≤ a.length + 1 := by
  obtain ⟨h1, h2⟩ := frm_some h
  have h3 : (decDigits z.natAbs).length ≤ (itoa z).length := by
    unfold itoa
    split
    · rw [List.length_cons]; omega
    · rename_i hz; rw [show z.toNat = z.natAbs by omega]; exact Nat.le_refl _
  rw [h2]
  unfold parS
  split
  · rename_i e; rw [e, dd_one]; exact ⟨h3, by simp⟩
  · rw [List.length_append, List.length_cons]; omega
theorem gcdS_gives (z : Int) (d : Nat) (hz : z.natAbs < ten300) (hd : d < ten300) (W : World) (ht : TabP W) :
    CallsR Tryz.prog 151 #[str (itoa z), str (decDigits d)] W (fun _ : Unit => .tuple #[str (decDigits (Nat.gcd z.natAbs d)), .int .i64 0]) (fun _ => True) (fun _ => []) := by
  have h := igcd_gives z (d : Nat) hz (by show Int.natAbs _ < _; rw [Int.natAbs_natCast]; exact hd) W ht
  rw [itoa_eq_dd', show Int.gcd z (d : Nat) = Nat.gcd z.natAbs d by rw [Int.gcd, Int.natAbs_natCast]] at h
  exact h
set_option maxHeartbeats 8000000 in
theorem rread_gives (a : List UInt8) (hl : a.length ≤ 4000000000) (W : World) (hv : MaxP W) (ht : TabP W) :
    CallsR Tryz.prog 178 #[str a] W (fun _ : Unit => rdV a) (fun _ => True) (fun _ => []) := by
  refine calls_enter (args := [str a]) Tryz.func178 rfl rfl rfl ?_
  refine zA ?_
  refine zB ?_
  (refine wl_allocZ Tryz.hZ rfl rfl rfl rfl ?_; intro)
  refine wl_pure Tryz.hT rfl rfl rfl ?_
  refine wl_nil ?_
  rename_i b2
  refine zE ?_
  refine zA ?_
  refine zB ?_
  refine wl_pure Tryz.hT rfl rfl rfl ?_
  cases hf : frm a with
  | none =>
    refine wl_call1 rfl rfl rfl rfl rfl rfl (by kernel_rfl) (fun W hp => (cutR_gives a hl W (hv.hp hp)).cast (by rw [cutV, hf])) ?_
    iterate 3 refine wl_pure Tryz.hT rfl rfl rfl ?_
    (refine wl_allocZ Tryz.hZ rfl rfl rfl rfl ?_; intro)
    refine wl_storeBx 1 Tryz.hT rfl rfl rfl rfl rfl rfl rfl rfl rfl rfl rfl ?_
    refine wl_pure Tryz.hT rfl rfl rfl ?_
    refine wl_nil ?_
    refine zE ?_
    iterate 2 refine zA ?_
    refine zB ?_
    iterate 2 refine wl_pure Tryz.hT rfl rfl rfl ?_
    refine wl_nil ?_
    refine zE ?_
    refine zR rfl ?_
    refine zA ?_
    refine zB ?_
    refine wl_buildZ Tryz.hZ Tryz.hT rfl rfl rfl rfl rfl rfl rfl rfl ?_
    refine wl_storeBx 0 Tryz.hT rfl rfl rfl rfl rfl rfl rfl rfl rfl rfl rfl ?_
    refine wl_pure Tryz.hT rfl rfl rfl ?_
    refine wl_nil ?_
    refine zE ?_
    refine zO ?_
    refine zP ?_
    exact ne_ret2 Tryz.hT rfl (.cell 0 rfl rfl rfl rfl rfl) (.tmp rfl) () (rd_none hf).symm trivial fun W _ => NewBx.nil _ _
  | some x =>
    obtain ⟨z, d⟩ := x
    obtain ⟨hd1, hap⟩ := frm_some hf
    obtain ⟨hz2, hd2⟩ := frm_len hf
    refine wl_call1 rfl rfl rfl rfl rfl rfl (by kernel_rfl) (fun W hp => (cutR_gives a hl W (hv.hp hp)).cast (by rw [cutV, hf])) ?_
    iterate 3 refine wl_pure Tryz.hT rfl rfl rfl ?_
    (refine wl_allocZ Tryz.hZ rfl rfl rfl rfl ?_; intro)
    refine wl_storeBx 1 Tryz.hT rfl rfl rfl rfl rfl rfl rfl rfl rfl rfl rfl ?_
    refine wl_pure Tryz.hT rfl rfl rfl ?_
    refine wl_nil ?_
    rename_i b4
    refine zE ?_
    iterate 2 refine zA ?_
    refine zB ?_
    iterate 2 refine wl_pure Tryz.hT rfl rfl rfl ?_
    refine wl_nil ?_
    refine zE ?_
    refine zS rfl ?_
    refine zI ?_
    refine zE ?_
    iterate 2 refine zA ?_
    refine zB ?_
    refine wl_pure Tryz.hT rfl rfl rfl ?_
    cases hn : natOf a with
    | some y =>
      obtain ⟨z', d'⟩ := y
      obtain ⟨e1, e2, e3, e4⟩ := natOf_iff.1 hn
      rw [hf] at e1
      injection e1 with e1
      injection e1 with ez ed
      subst ez; subst ed
      have hlt : ∀ n, n < 100000000 → n < ten300 := fun n h => Nat.lt_of_lt_of_le (Nat.lt_of_lt_of_le h (show 100000000 ≤ 10 ^ 8 by decide)) (Nat.pow_le_pow_right (by decide) (show 8 ≤ mxd by decide))
      refine wl_call1 rfl rfl rfl rfl rfl rfl (by kernel_rfl) (fun W _ => (nativeOf_gives a (by omega) W).cast (by rw [natOfV, hn])) ?_
      iterate 3 refine wl_pure Tryz.hT rfl rfl rfl ?_
      (refine wl_allocZ Tryz.hZ rfl rfl rfl rfl ?_; intro)
      refine wl_storeBx 2 Tryz.hT rfl rfl rfl rfl rfl rfl rfl rfl rfl rfl rfl ?_
      refine wl_pure Tryz.hT rfl rfl rfl ?_
      refine wl_nil ?_
      refine zE ?_
      refine zA ?_
      refine zB ?_
      refine wl_pure Tryz.hT rfl rfl rfl ?_
      refine wl_nil ?_
      refine zE ?_
      refine zR rfl ?_
      refine zA ?_
      refine zB ?_
      refine wl_loadBx 1 Tryz.hT rfl rfl rfl rfl rfl rfl rfl rfl ?_
      refine wl_storeBx 0 Tryz.hT rfl rfl rfl rfl rfl rfl rfl rfl rfl rfl rfl ?_
      refine wl_pure Tryz.hT rfl rfl rfl ?_
      refine wl_nil ?_
      refine zE ?_
      refine zO ?_
      refine zP ?_
      exact ne_ret2 Tryz.hT rfl (.cell 0 rfl rfl rfl rfl rfl) (.tmp rfl) () (rd_ok hf ⟨hlt _ e2, hlt _ e3⟩ e4).symm trivial fun W _ => NewBx.nil _ _
    | none =>
      refine wl_call1 rfl rfl rfl rfl rfl rfl (by kernel_rfl) (fun W _ => (nativeOf_gives a (by omega) W).cast (by rw [natOfV, hn])) ?_
      iterate 3 refine wl_pure Tryz.hT rfl rfl rfl ?_
      (refine wl_allocZ Tryz.hZ rfl rfl rfl rfl ?_; intro)
      refine wl_storeBx 2 Tryz.hT rfl rfl rfl rfl rfl rfl rfl rfl rfl rfl rfl ?_
      refine wl_pure Tryz.hT rfl rfl rfl ?_
      refine wl_nil ?_
      rename_i b6
      refine zE ?_
      refine zA ?_
      refine zB ?_
      refine wl_pure Tryz.hT rfl rfl rfl ?_
      refine wl_nil ?_
      refine zE ?_
      refine zS rfl ?_
      refine zI ?_
      refine zE ?_
      iterate 2 refine zA ?_
      refine zB ?_
      refine wl_pure Tryz.hT rfl rfl rfl ?_
      refine wl_loadBx 1 Tryz.hT rfl rfl rfl rfl rfl rfl rfl rfl ?_
      refine wl_call1 rfl rfl rfl rfl rfl rfl (by kernel_rfl) (fun W _ => (trimPrefix_gives (itoa z) [45] W).cast (by rw [trimPrefix_itoa])) ?_
      refine wl_pure Tryz.hT rfl rfl rfl ?_
      refine wl_upd 28 (.int .i64 ((decDigits z.natAbs).length : Nat)) rfl (congrArg (fun n : Nat => Value.int .i64 (n : Int)) (str_size _)) ?_
      refine wl_pure Tryz.hT rfl rfl rfl ?_
      by_cases hzl : z.natAbs < ten300
      · have hz3 := dd300.2 hzl
        refine wl_upd 29 (.bool false) rfl (congrArg Value.bool (decide_eq_false (by omega))) ?_
        iterate 2 refine wl_pure Tryz.hT rfl rfl rfl ?_
        refine wl_loadBx 1 Tryz.hT rfl rfl rfl rfl rfl rfl rfl rfl ?_
        refine wl_pure Tryz.hT rfl rfl rfl ?_
        refine wl_upd 33 (.int .i64 ((decDigits d).length : Nat)) rfl (congrArg (fun n : Nat => Value.int .i64 (n : Int)) (str_size _)) ?_
        refine wl_pure Tryz.hT rfl rfl rfl ?_
        by_cases hdl : d < ten300
        · have hd3 := dd300.2 hdl
          refine wl_upd 34 (.bool false) rfl (congrArg Value.bool (decide_eq_false (by omega))) ?_
          refine wl_pure Tryz.hT rfl rfl rfl ?_
          refine wl_nil ?_
          refine zE ?_
          refine zS rfl ?_
          refine zI ?_
          refine zE ?_
          iterate 2 refine zA ?_
          refine zB ?_
          refine wl_pure Tryz.hT rfl rfl rfl ?_
          refine wl_loadBx 1 Tryz.hT rfl rfl rfl rfl rfl rfl rfl rfl ?_
          refine wl_pure Tryz.hT rfl rfl rfl ?_
          by_cases h1 : d = 1
          · refine wl_upd 39 (.bool true) rfl (congrArg Value.bool ((strEqB _ [49]).trans (decide_eq_true (by rw [h1, dd_one])))) ?_
            refine wl_nil ?_
            refine zE ?_
            refine zR rfl ?_
            refine zA ?_
            refine zB ?_
            refine wl_loadBx 1 Tryz.hT rfl rfl rfl rfl rfl rfl rfl rfl ?_
            refine wl_storeBx 0 Tryz.hT rfl rfl rfl rfl rfl rfl rfl rfl rfl rfl rfl ?_
            refine wl_pure Tryz.hT rfl rfl rfl ?_
            refine wl_nil ?_
            refine zE ?_
            refine zO ?_
            refine zP ?_
            exact ne_ret2 Tryz.hT rfl (.cell 0 rfl rfl rfl rfl rfl) (.tmp rfl) () (rd_ok hf ⟨hzl, hdl⟩ (by rw [h1, Nat.gcd_one_right])).symm trivial fun W _ => NewBx.nil _ _
          · refine wl_upd 39 (.bool false) rfl (congrArg Value.bool ((strEqB _ [49]).trans (decide_eq_false (fun e => h1 (by have := congrArg dval e; rw [dval_dd] at this; exact this))))) ?_
            refine wl_nil ?_
            refine zE ?_
            refine zS rfl ?_
            refine zI ?_
            refine zE ?_
            iterate 2 refine zA ?_
            refine zB ?_
            refine wl_pure Tryz.hT rfl rfl rfl ?_
            refine wl_loadBx 1 Tryz.hT rfl rfl rfl rfl rfl rfl rfl rfl ?_
            refine wl_pure Tryz.hT rfl rfl rfl ?_
            refine wl_loadBx 1 Tryz.hT rfl rfl rfl rfl rfl rfl rfl rfl ?_
            refine wl_call1 rfl rfl rfl rfl rfl rfl (by kernel_rfl) (fun W hp => gcdS_gives z d hzl hdl W (ht.hp hp)) ?_
            iterate 5 refine wl_pure Tryz.hT rfl rfl rfl ?_
            refine wl_nil ?_
            refine zE ?_
            refine zA ?_
            refine zB ?_
            iterate 5 refine wl_pure Tryz.hT rfl rfl rfl ?_
            by_cases hg : Nat.gcd z.natAbs d = 1
            · refine wl_upd 53 (.bool false) rfl (congrArg Value.bool (by show (!_) = false; rw [strEqB, hg, dd_one]; rfl)) ?_
              refine wl_pure Tryz.hT rfl rfl rfl ?_
              refine wl_nil ?_
              refine zE ?_
              refine zS rfl ?_
              refine zI ?_
              refine zE ?_
              refine zA ?_
              refine zB ?_
              refine wl_loadBx 1 Tryz.hT rfl rfl rfl rfl rfl rfl rfl rfl ?_
              refine wl_storeBx 0 Tryz.hT rfl rfl rfl rfl rfl rfl rfl rfl rfl rfl rfl ?_
              refine wl_pure Tryz.hT rfl rfl rfl ?_
              refine wl_nil ?_
              refine zE ?_
              refine zO ?_
              exact ne_ret2 Tryz.hT rfl (.cell 0 rfl rfl rfl rfl rfl) (.tmp rfl) () (rd_ok hf ⟨hzl, hdl⟩ hg).symm trivial fun W _ => NewBx.nil _ _
            · refine wl_upd 53 (.bool true) rfl (congrArg Value.bool (by show (!_) = true; rw [strEqB, decide_eq_false (fun e => hg (by have := congrArg dval e; rw [dval_dd] at this; exact this))]; rfl)) ?_
              refine wl_pure Tryz.hT rfl rfl rfl ?_
              refine wl_nil ?_
              refine zE ?_
              refine zR rfl ?_
              refine zA ?_
              refine zB ?_
              refine wl_buildZ Tryz.hZ Tryz.hT rfl rfl rfl rfl rfl rfl rfl rfl ?_
              refine wl_storeBx 0 Tryz.hT rfl rfl rfl rfl rfl rfl rfl rfl rfl rfl rfl ?_
              refine wl_pure Tryz.hT rfl rfl rfl ?_
              refine wl_nil ?_
              refine zE ?_
              refine zO ?_
              refine zP ?_
              exact ne_ret2 Tryz.hT rfl (.cell 0 rfl rfl rfl rfl rfl) (.tmp rfl) () (rd_gcd hf ⟨hzl, hdl⟩ hg).symm trivial fun W _ => NewBx.nil _ _
        · have hd3 : ¬ (decDigits d).length ≤ 300 := fun h => hdl (dd300.1 h)
          refine wl_upd 34 (.bool true) rfl (congrArg Value.bool (decide_eq_true (by omega))) ?_
          refine wl_pure Tryz.hT rfl rfl rfl ?_
          refine wl_nil ?_
          refine zE ?_
          refine zR rfl ?_
          refine zA ?_
          refine zB ?_
          refine wl_buildZ Tryz.hZ Tryz.hT rfl rfl rfl rfl rfl rfl rfl rfl ?_
          refine wl_storeBx 0 Tryz.hT rfl rfl rfl rfl rfl rfl rfl rfl rfl rfl rfl ?_
          refine wl_pure Tryz.hT rfl rfl rfl ?_
          refine wl_nil ?_
          refine zE ?_
          refine zO ?_
          refine zP ?_
          exact ne_ret2 Tryz.hT rfl (.cell 0 rfl rfl rfl rfl rfl) (.tmp rfl) () (rd_long hf fun h => hdl h.2).symm trivial fun W _ => NewBx.nil _ _
      · have hz3 : ¬ (decDigits z.natAbs).length ≤ 300 := fun h => hzl (dd300.1 h)
        refine wl_upd 29 (.bool true) rfl (congrArg Value.bool (decide_eq_true (by omega))) ?_
        refine wl_pure Tryz.hT rfl rfl rfl ?_
        iterate 4 refine wl_skip rfl rfl ?_
        refine wl_pure Tryz.hT rfl rfl rfl ?_
        refine wl_nil ?_
        refine zE ?_
        refine zR rfl ?_
        refine zA ?_
        refine zB ?_
        refine wl_buildZ Tryz.hZ Tryz.hT rfl rfl rfl rfl rfl rfl rfl rfl ?_
        refine wl_storeBx 0 Tryz.hT rfl rfl rfl rfl rfl rfl rfl rfl rfl rfl rfl ?_
        refine wl_pure Tryz.hT rfl rfl rfl ?_
        refine wl_nil ?_
        refine zE ?_
        refine zO ?_
        refine zP ?_
        exact ne_ret2 Tryz.hT rfl (.cell 0 rfl rfl rfl rfl rfl) (.tmp rfl) () (rd_long hf fun h => hzl h.1).symm trivial fun W _ => NewBx.nil _ _
end Go.Proofs.YtlagebbefnnnnaaGreatDoor
namespace Go.Proofs.YtlagebbefnnnnaaGreatDoor
open Go Go.RowKit Go.Am Go.Lib
set_option maxRecDepth 10000
-- BOXES 3
theorem hasPrefix_itoa (z : Int) : hasPrefix (itoa z) [45] = decide (z < 0) := by
  rw [hasPrefix45]
  refine decide_eq_decide.2 ?_
  unfold itoa
  split
  · rename_i h; exact ⟨fun _ => h, fun _ => rfl⟩
  · rename_i h
    obtain ⟨b, r, hb, h3, h4⟩ := first_digit z.toNat
    rw [hb]
    constructor
    · intro e
      have e : b = 45 := by simpa using e
      rw [e] at h3; exact absurd h3 (by decide)
    · intro h5; exact absurd h5 h
theorem itoa_0 {z : Int} : itoa z = [48] ↔ z = 0 := by
  constructor
  · intro h
    have h2 := trimPrefix_itoa z
    rw [h] at h2
    have h3 := congrArg dval h2
    rw [dval_dd] at h3
    have h4 : dval (trimPrefix [48] [45]) = 0 := by decide
    rw [h4] at h3; omega
  · rintro rfl; exact itoa_zero
theorem itoa_len300 {z : Int} (h : okN z) : (itoa z).length ≤ 301 := by
  have h2 := dd300.2 h
  unfold itoa
  split
  · rw [List.length_cons]; omega
  · rename_i hz; rw [show z.toNat = z.natAbs by omega]; omega
theorem opposite_gives (z : Int) (hz : okN z) : Gives Tryz.prog 150 [str (itoa z)] (str (itoa (-z))) := by
  intro W
  refine calls_enter Tryz.func150 rfl rfl rfl ?_
  refine zA ?_
  refine zB ?_
  refine wl_pure Tryz.hT rfl rfl rfl ?_
  refine wl_nil ?_
  refine zE ?_
  iterate 2 refine zA ?_
  refine zB ?_
  iterate 2 refine wl_pure Tryz.hT rfl rfl rfl ?_
  by_cases h0 : z = 0
  · refine wl_upd 6 (.bool true) rfl (congrArg Value.bool ((strEqB _ [48]).trans (decide_eq_true (itoa_0.2 h0)))) ?_
    refine wl_nil ?_
    refine zE ?_
    refine zR rfl ?_
    refine zA ?_
    refine zB ?_
    iterate 2 refine wl_pure Tryz.hT rfl rfl rfl ?_
    refine wl_nil ?_
    refine zE ?_
    refine zO ?_
    refine zP ?_
    exact ne_ret1 Tryz.hT rfl (.tmp rfl) () (by rw [h0]; rfl) trivial fun W _ => NewBx.nil _ _
  · refine wl_upd 6 (.bool false) rfl (congrArg Value.bool ((strEqB _ [48]).trans (decide_eq_false fun e => h0 (itoa_0.1 e)))) ?_
    refine wl_nil ?_
    refine zE ?_
    refine zS rfl ?_
    refine zI ?_
    refine zE ?_
    iterate 2 refine zA ?_
    refine zB ?_
    refine wl_pure Tryz.hT rfl rfl rfl ?_
    by_cases hn : z < 0
    · refine wl_call1 rfl rfl rfl rfl rfl rfl (by kernel_rfl) (fun W _ => (cutPrefix_gives (itoa z) [45] W).cast (by rw [trimPrefix_itoa, hasPrefix_itoa, decide_eq_true hn])) ?_
      iterate 5 refine wl_pure Tryz.hT rfl rfl rfl ?_
      refine wl_nil ?_
      refine zE ?_
      refine zA ?_
      refine zB ?_
      refine wl_pure Tryz.hT rfl rfl rfl ?_
      refine wl_nil ?_
      refine zE ?_
      refine zR rfl ?_
      refine zA ?_
      refine zB ?_
      iterate 2 refine wl_pure Tryz.hT rfl rfl rfl ?_
      refine wl_nil ?_
      refine zE ?_
      refine zO ?_
      refine zP ?_
      exact ne_ret1 Tryz.hT rfl (.tmp rfl) () (by rw [itoa, if_neg (by omega), show (-z).toNat = z.natAbs by omega]) trivial fun W _ => NewBx.nil _ _
    · refine wl_call1 rfl rfl rfl rfl rfl rfl (by kernel_rfl) (fun W _ => (cutPrefix_gives (itoa z) [45] W).cast (by rw [trimPrefix_itoa, hasPrefix_itoa, decide_eq_false hn])) ?_
      iterate 5 refine wl_pure Tryz.hT rfl rfl rfl ?_
      refine wl_nil ?_
      refine zE ?_
      refine zA ?_
      refine zB ?_
      refine wl_pure Tryz.hT rfl rfl rfl ?_
      refine wl_nil ?_
      refine zE ?_
      refine zS rfl ?_
      refine zI ?_
      refine zE ?_
      refine zA ?_
      refine zB ?_
      refine wl_pure Tryz.hT rfl rfl rfl ?_
      refine wl_strAdd rfl rfl rfl rfl rfl (by decide) (Nat.le_trans (itoa_len300 hz) (by decide)) ?_
      refine wl_pure Tryz.hT rfl rfl rfl ?_
      refine wl_nil ?_
      refine zE ?_
      refine zO ?_
      exact ne_ret1 Tryz.hT rfl (.tmp rfl) () (by
        rw [show itoa (-z) = 45 :: decDigits (-z).natAbs by rw [itoa, if_pos (by omega)], Int.natAbs_neg]
        rw [show itoa z = decDigits z.natAbs by rw [itoa, if_neg hn, show z.toNat = z.natAbs by omega]]; rfl) trivial fun W _ => NewBx.nil _ _
theorem okN_neg {z : Int} (h : okN z) : okN (-z) := by unfold okN; rw [Int.natAbs_neg]; exact h
set_option maxHeartbeats 8000000 in
theorem ratNumber_gives (z d : Int) (hd : d ≠ 0) (hz : okN z) (hd2 : okN d) (W : World) (ht : TabP W) :
    CallsR Tryz.prog 70 #[str (itoa z), str (itoa d)] W (fun _ : Unit => .tuple #[str (numS (mkRat (if d < 0 then -z else z) d.natAbs)), .int .i64 0]) (fun _ => True) (fun _ => []) := by
  refine calls_enter (args := [str (itoa z), str (itoa d)]) Tryz.func70 rfl rfl rfl ?_
  refine zA ?_
  refine zB ?_
  iterate 2 refine wl_pure Tryz.hT rfl rfl rfl ?_
  refine wl_nil ?_
  refine zE ?_
  iterate 2 refine zA ?_
  refine zB ?_
  refine wl_pure Tryz.hT rfl rfl rfl ?_
  refine wl_call1 rfl rfl rfl rfl rfl rfl (by kernel_rfl) (fun W _ => (prefix_gives (itoa d) [45] W).cast (by rw [hasPrefix_itoa])) ?_
  refine wl_nil ?_
  refine ne_then ?_
  refine wc_cutS (X := Unit) (fun _ => [(0, str (itoa (if d < 0 then -z else z))), (1, str (decDigits d.natAbs)), (4, str []), (5, .int .i64 0)]) (fun _ => []) (fun _ => True) ?_ ?_
  · refine wc_cond rfl (fun hc => ?_) (fun hc => ?_)
    · have hc := of_decide_eq_true hc
      refine zB ?_
      refine wl_pure Tryz.hT rfl rfl rfl ?_
      refine wl_call1 rfl rfl rfl rfl rfl rfl (by kernel_rfl) (fun W _ => opposite_gives z hz W) ?_
      refine wl_pure Tryz.hT rfl rfl rfl ?_
      refine wl_call1 rfl rfl rfl rfl rfl rfl (by kernel_rfl) (fun W _ => opposite_gives d hd2 W) ?_
      iterate 2 refine wl_pure Tryz.hT rfl rfl rfl ?_
      refine wl_nil ?_
      rw [if_pos hc]
      exact ne_cut () trivial ⟨rfl, by rw [show itoa (-d) = decDigits d.natAbs by rw [itoa, if_neg (by omega), show (-d).toNat = d.natAbs by omega]]; rfl, rfl, rfl, trivial⟩ [] rfl
    · have hc := of_decide_eq_false hc
      refine zI ?_
      rw [if_neg hc]
      exact ne_cut () trivial ⟨rfl, by rw [show decDigits d.natAbs = itoa d by rw [itoa, if_neg hc, show d.toNat = d.natAbs by omega]]; rfl, rfl, rfl, trivial⟩ [] rfl
  · intro _ _
    obtain ⟨x, hx⟩ : ∃ x, (if d < 0 then -z else z) = x := ⟨_, rfl⟩
    obtain ⟨e, he⟩ : ∃ e, d.natAbs = e := ⟨_, rfl⟩
    have hxo : okN x := by rw [← hx]; split; exact okN_neg hz; exact hz
    have heo : e < ten300 := by rw [← he]; exact hd2
    rw [hx, he]
    have he0 : e ≠ 0 := by omega
    obtain ⟨g, hg⟩ : ∃ g, Nat.gcd x.natAbs e = g := ⟨_, rfl⟩
    have hg0 : 0 < g := by rw [← hg]; exact Nat.gcd_pos_of_pos_right _ (by omega)
    obtain ⟨k, hk⟩ : ∃ k, x = (g : Int) * k := Int.natAbs_dvd_natAbs.1 (by rw [Int.natAbs_natCast, ← hg]; exact Nat.gcd_dvd_left ..)
    obtain ⟨m, hm⟩ : ∃ m, e = g * m := by rw [← hg]; exact Nat.gcd_dvd_right ..
    have hge : g ≤ e := by rw [hm]; exact Nat.le_mul_of_pos_right _ (Nat.pos_of_ne_zero fun h => he0 (by rw [hm, h, Nat.mul_zero]))
    have hgo : okN (g : Int) := by unfold okN; rw [Int.natAbs_natCast]; omega
    have hkx : k.natAbs ≤ x.natAbs := by rw [hk, Int.natAbs_mul]; exact Nat.le_mul_of_pos_left _ (by omega)
    have hme : m ≤ e := by rw [hm]; exact Nat.le_mul_of_pos_left _ hg0
    have hko : okN k := Nat.lt_of_le_of_lt hkx hxo
    have hmo : m < ten300 := by omega
    have hq1 : x / (g : Int) = k := by rw [hk]; exact Int.mul_ediv_cancel_left _ (by omega)
    have hq2 : e / g = m := by rw [hm]; exact Nat.mul_div_cancel_left _ hg0
    have hone : m = 1 → numS (mkRat x e) = itoa k := fun h => by rw [numS_one he0 (by rw [hg, hq2, h]), hg, hq1]
    have htwo : m ≠ 1 → numS (mkRat x e) = itoa k ++ [47] ++ decDigits m := fun h => by rw [numS_two he0 (by rw [hg, hq2]; exact h), hg, hq1, hq2, itoa_eq_dd']
    refine wc_seq ?_
    refine zB ?_
    iterate 2 refine wl_pure Tryz.hT rfl rfl rfl ?_
    refine wl_call1 rfl rfl rfl rfl rfl rfl (by kernel_rfl) (fun W hp => (gcdS_gives x e hxo heo W (ht.hp hp)).cast (by rw [hg])) ?_
    iterate 5 refine wl_pure Tryz.hT rfl rfl rfl ?_
    refine wl_nil ?_
    refine zE ?_
    iterate 2 refine zA ?_
    refine zB ?_
    iterate 2 refine wl_pure Tryz.hT rfl rfl rfl ?_
    refine wl_nil ?_
    refine zE ?_
    refine zS rfl ?_
    refine zI ?_
    refine zE ?_
    iterate 2 refine zA ?_
    refine zB ?_
    iterate 2 refine wl_pure Tryz.hT rfl rfl rfl ?_
    refine wl_upd 24 (.bool (decide (g ≠ 1))) rfl (congrArg Value.bool (by show (!_) = _; rw [strEqB, decide_not]; exact congrArg not (decide_eq_decide.2 ⟨fun h => by have := congrArg dval h; rw [dval_dd] at this; exact this, fun h => by rw [h, dd_one]⟩))) ?_
    refine wl_nil ?_
    refine ne_then ?_
    refine wc_cutS (X := Unit) (fun _ => [(0, str (itoa k)), (1, str (decDigits m)), (4, str []), (5, .int .i64 0)]) (fun _ => []) (fun _ => True) ?_ ?_
    · refine wc_cond rfl (fun hc => ?_) (fun hc => ?_)
      · refine zA ?_
        refine zB ?_
        iterate 2 refine wl_pure Tryz.hT rfl rfl rfl ?_
        refine wl_call1 rfl rfl rfl rfl rfl rfl (by kernel_rfl) (fun W hp => by have h := idiv_gives (g : Int) k (by omega) (by rw [← hk]; exact hxo) hgo W (ht.hp hp); rw [← hk, itoa_eq_dd'] at h; exact h) ?_
        iterate 5 refine wl_pure Tryz.hT rfl rfl rfl ?_
        refine wl_nil ?_
        refine zE ?_
        refine zB ?_
        iterate 2 refine wl_pure Tryz.hT rfl rfl rfl ?_
        refine wl_call1 rfl rfl rfl rfl rfl rfl (by kernel_rfl) (fun W hp => by have h := idiv_gives (g : Int) (m : Nat) (by omega) (by rw [← Int.natCast_mul, ← hm]; unfold okN; rw [Int.natAbs_natCast]; exact heo) hgo W (ht.hp hp); rw [← Int.natCast_mul, ← hm, itoa_eq_dd', itoa_eq_dd', itoa_eq_dd'] at h; exact h) ?_
        iterate 5 refine wl_pure Tryz.hT rfl rfl rfl ?_
        refine wl_nil ?_
        exact ne_cut () trivial ⟨rfl, rfl, rfl, rfl, trivial⟩ [] rfl
      · have hc := of_decide_eq_false hc
        have h1 : g = 1 := Decidable.byContradiction hc
        have hkx : k = x := by rw [hk, h1]; omega
        have hme : m = e := by rw [hm, h1]; omega
        refine zI ?_
        rw [hkx, hme]
        exact ne_cut () trivial ⟨rfl, rfl, rfl, rfl, trivial⟩ [] rfl
    · intro _ _
      iterate 2 refine zA ?_
      refine zB ?_
      iterate 2 refine wl_pure Tryz.hT rfl rfl rfl ?_
      by_cases h1 : m = 1
      · refine wl_upd 40 (.bool true) rfl (congrArg Value.bool ((strEqB _ [49]).trans (decide_eq_true (by rw [h1, dd_one])))) ?_
        refine wl_nil ?_
        refine zE ?_
        refine zR rfl ?_
        refine zA ?_
        refine zB ?_
        iterate 3 refine wl_pure Tryz.hT rfl rfl rfl ?_
        refine wl_nil ?_
        refine zE ?_
        refine zO ?_
        refine zP ?_
        exact ne_ret2 Tryz.hT rfl (.tmp rfl) (.tmp rfl) () (by rw [hone h1]) trivial fun W _ => NewBx.nil _ _
      · refine wl_upd 40 (.bool false) rfl (congrArg Value.bool ((strEqB _ [49]).trans (decide_eq_false (fun e => h1 (by have := congrArg dval e; rw [dval_dd] at this; exact this))))) ?_
        refine wl_nil ?_
        refine zE ?_
        refine zS rfl ?_
        refine zI ?_
        refine zE ?_
        refine zA ?_
        refine zB ?_
        refine wl_pure Tryz.hT rfl rfl rfl ?_
        refine wl_strAdd rfl rfl rfl rfl rfl (Nat.le_trans (itoa_len300 hko) (by decide)) (by decide) ?_
        refine wl_pure Tryz.hT rfl rfl rfl ?_
        refine wl_strAdd rfl rfl rfl rfl rfl (by have := itoa_len300 hko; rw [List.length_append]; show _ + 1 ≤ _; omega) (Nat.le_trans (dd300.2 hmo) (by decide)) ?_
        iterate 2 refine wl_pure Tryz.hT rfl rfl rfl ?_
        refine wl_nil ?_
        refine zE ?_
        refine zO ?_
        exact ne_ret2 Tryz.hT rfl (.tmp rfl) (.tmp rfl) () (by rw [htwo h1]) trivial fun W _ => NewBx.nil _ _
end Go.Proofs.YtlagebbefnnnnaaGreatDoor
namespace Go.Proofs.YtlagebbefnnnnaaGreatDoor
open Go Go.RowKit Go.Am Go.Lib
set_option maxRecDepth 10000
-- BOXES 4
theorem mul_8 {x y : Int} (hx : x.natAbs < 100000000) (hy : y.natAbs < 100000000) : (x * y).natAbs < 10000000000000000 := by
  rw [Int.natAbs_mul]
  exact Nat.lt_of_le_of_lt (Nat.mul_le_mul (Nat.le_of_lt_succ (Nat.lt_succ_of_lt hx)) (Nat.le_of_lt_succ (Nat.lt_succ_of_lt hy)) |> fun h => Nat.le_trans (Nat.mul_le_mul (show x.natAbs ≤ 99999999 by omega) (show y.natAbs ≤ 99999999 by omega)) (Nat.le_refl _)) (by decide)
theorem w64_mul8 {x y : Int} (hx : x.natAbs < 100000000) (hy : y.natAbs < 100000000) : w64 (x * y) = x * y := by
  have := mul_8 hx hy
  exact w64_id (by omega) (by omega)
theorem addC_gives (z d z' d' : Int) (h1 : z.natAbs < 100000000) (h2 : d.natAbs < 100000000) (h3 : z'.natAbs < 100000000) (h4 : d'.natAbs < 100000000) : Gives Tryz.prog 99 [natA z d, natA z' d'] (natA (z * d' + z' * d) (d * d')) := by
  intro W
  have a1 := mul_8 h1 h4
  have a2 := mul_8 h3 h2
  refine calls_enter Tryz.func99 rfl rfl rfl ?_
  refine zA ?_
  refine zB ?_
  (refine wl_box rfl rfl rfl rfl ?_; intro)
  (refine wl_box rfl rfl rfl rfl ?_; intro)
  (refine wl_allocZ Tryz.hZ rfl rfl rfl rfl ?_; intro)
  refine wl_nil ?_
  refine zE ?_
  refine zA ?_
  refine zB ?_
  refine wl_pure Tryz.hT rfl rfl rfl ?_
  refine wl_loadBx 0 Tryz.hT rfl rfl rfl rfl rfl rfl rfl rfl ?_
  refine wl_pure Tryz.hT rfl rfl rfl ?_
  refine wl_loadBx 1 Tryz.hT rfl rfl rfl rfl rfl rfl rfl rfl ?_
  refine wl_pure Tryz.hT rfl rfl rfl ?_
  refine wl_upd 9 (.int .i64 (z * d')) rfl (congrArg (Value.int .i64) (w64_mul8 h1 h4)) ?_
  refine wl_pure Tryz.hT rfl rfl rfl ?_
  refine wl_loadBx 1 Tryz.hT rfl rfl rfl rfl rfl rfl rfl rfl ?_
  refine wl_pure Tryz.hT rfl rfl rfl ?_
  refine wl_loadBx 0 Tryz.hT rfl rfl rfl rfl rfl rfl rfl rfl ?_
  refine wl_pure Tryz.hT rfl rfl rfl ?_
  refine wl_upd 14 (.int .i64 (z' * d)) rfl (congrArg (Value.int .i64) (w64_mul8 h3 h2)) ?_
  refine wl_pure Tryz.hT rfl rfl rfl ?_
  refine wl_upd 15 (.int .i64 (z * d' + z' * d)) rfl (congrArg (Value.int .i64) (w64_id (by omega) (by omega))) ?_
  refine wl_pure Tryz.hT rfl rfl rfl ?_
  refine wl_loadBx 0 Tryz.hT rfl rfl rfl rfl rfl rfl rfl rfl ?_
  refine wl_pure Tryz.hT rfl rfl rfl ?_
  refine wl_loadBx 1 Tryz.hT rfl rfl rfl rfl rfl rfl rfl rfl ?_
  refine wl_pure Tryz.hT rfl rfl rfl ?_
  refine wl_upd 20 (.int .i64 (d * d')) rfl (congrArg (Value.int .i64) (w64_mul8 h2 h4)) ?_
  refine wl_buildZ Tryz.hZ Tryz.hT rfl rfl rfl rfl rfl rfl rfl rfl ?_
  refine wl_storeBx 2 Tryz.hT rfl rfl rfl rfl rfl rfl rfl rfl rfl rfl rfl ?_
  refine wl_nil ?_
  refine zE ?_
  refine zO ?_
  exact ne_ret1 Tryz.hT rfl (.cell 2 rfl rfl rfl rfl rfl) () rfl trivial fun W _ => NewBx.nil _ _
theorem subC_gives (z d z' d' : Int) (h1 : z.natAbs < 100000000) (h2 : d.natAbs < 100000000) (h3 : z'.natAbs < 100000000) (h4 : d'.natAbs < 100000000) : Gives Tryz.prog 158 [natA z d, natA z' d'] (natA (z * d' - z' * d) (d * d')) := by
  intro W
  have a1 := mul_8 h1 h4
  have a2 := mul_8 h3 h2
  refine calls_enter Tryz.func158 rfl rfl rfl ?_
  refine zA ?_
  refine zB ?_
  (refine wl_box rfl rfl rfl rfl ?_; intro)
  (refine wl_box rfl rfl rfl rfl ?_; intro)
  (refine wl_allocZ Tryz.hZ rfl rfl rfl rfl ?_; intro)
  refine wl_nil ?_
  refine zE ?_
  refine zA ?_
  refine zB ?_
  refine wl_pure Tryz.hT rfl rfl rfl ?_
  refine wl_loadBx 0 Tryz.hT rfl rfl rfl rfl rfl rfl rfl rfl ?_
  refine wl_pure Tryz.hT rfl rfl rfl ?_
  refine wl_loadBx 1 Tryz.hT rfl rfl rfl rfl rfl rfl rfl rfl ?_
  refine wl_pure Tryz.hT rfl rfl rfl ?_
  refine wl_upd 9 (.int .i64 (z * d')) rfl (congrArg (Value.int .i64) (w64_mul8 h1 h4)) ?_
  refine wl_pure Tryz.hT rfl rfl rfl ?_
  refine wl_loadBx 1 Tryz.hT rfl rfl rfl rfl rfl rfl rfl rfl ?_
  refine wl_pure Tryz.hT rfl rfl rfl ?_
  refine wl_loadBx 0 Tryz.hT rfl rfl rfl rfl rfl rfl rfl rfl ?_
  refine wl_pure Tryz.hT rfl rfl rfl ?_
  refine wl_upd 14 (.int .i64 (z' * d)) rfl (congrArg (Value.int .i64) (w64_mul8 h3 h2)) ?_
  refine wl_pure Tryz.hT rfl rfl rfl ?_
  refine wl_upd 15 (.int .i64 (z * d' - z' * d)) rfl (congrArg (Value.int .i64) (w64_id (by omega) (by omega))) ?_
  refine wl_pure Tryz.hT rfl rfl rfl ?_
  refine wl_loadBx 0 Tryz.hT rfl rfl rfl rfl rfl rfl rfl rfl ?_
  refine wl_pure Tryz.hT rfl rfl rfl ?_
  refine wl_loadBx 1 Tryz.hT rfl rfl rfl rfl rfl rfl rfl rfl ?_
  refine wl_pure Tryz.hT rfl rfl rfl ?_
  refine wl_upd 20 (.int .i64 (d * d')) rfl (congrArg (Value.int .i64) (w64_mul8 h2 h4)) ?_
  refine wl_buildZ Tryz.hZ Tryz.hT rfl rfl rfl rfl rfl rfl rfl rfl ?_
  refine wl_storeBx 2 Tryz.hT rfl rfl rfl rfl rfl rfl rfl rfl rfl rfl rfl ?_
  refine wl_nil ?_
  refine zE ?_
  refine zO ?_
  exact ne_ret1 Tryz.hT rfl (.cell 2 rfl rfl rfl rfl rfl) () rfl trivial fun W _ => NewBx.nil _ _
theorem mulC_gives (z d z' d' : Int) (h1 : z.natAbs < 100000000) (h2 : d.natAbs < 100000000) (h3 : z'.natAbs < 100000000) (h4 : d'.natAbs < 100000000) : Gives Tryz.prog 200 [natA z d, natA z' d'] (natA (z * z') (d * d')) := by
  intro W
  refine calls_enter Tryz.func200 rfl rfl rfl ?_
  refine zA ?_
  refine zB ?_
  (refine wl_box rfl rfl rfl rfl ?_; intro)
  (refine wl_box rfl rfl rfl rfl ?_; intro)
  (refine wl_allocZ Tryz.hZ rfl rfl rfl rfl ?_; intro)
  refine wl_nil ?_
  refine zE ?_
  refine zA ?_
  refine zB ?_
  refine wl_pure Tryz.hT rfl rfl rfl ?_
  refine wl_loadBx 0 Tryz.hT rfl rfl rfl rfl rfl rfl rfl rfl ?_
  refine wl_pure Tryz.hT rfl rfl rfl ?_
  refine wl_loadBx 1 Tryz.hT rfl rfl rfl rfl rfl rfl rfl rfl ?_
  refine wl_pure Tryz.hT rfl rfl rfl ?_
  refine wl_upd 9 (.int .i64 (z * z')) rfl (congrArg (Value.int .i64) (w64_mul8 h1 h3)) ?_
  refine wl_pure Tryz.hT rfl rfl rfl ?_
  refine wl_loadBx 0 Tryz.hT rfl rfl rfl rfl rfl rfl rfl rfl ?_
  refine wl_pure Tryz.hT rfl rfl rfl ?_
  refine wl_loadBx 1 Tryz.hT rfl rfl rfl rfl rfl rfl rfl rfl ?_
  refine wl_pure Tryz.hT rfl rfl rfl ?_
  refine wl_upd 14 (.int .i64 (d * d')) rfl (congrArg (Value.int .i64) (w64_mul8 h2 h4)) ?_
  refine wl_buildZ Tryz.hZ Tryz.hT rfl rfl rfl rfl rfl rfl rfl rfl ?_
  refine wl_storeBx 2 Tryz.hT rfl rfl rfl rfl rfl rfl rfl rfl rfl rfl rfl ?_
  refine wl_nil ?_
  refine zE ?_
  refine zO ?_
  exact ne_ret1 Tryz.hT rfl (.cell 2 rfl rfl rfl rfl rfl) () rfl trivial fun W _ => NewBx.nil _ _
theorem divC_gives (z d z' d' : Int) (h1 : z.natAbs < 100000000) (h2 : d.natAbs < 100000000) (h3 : z'.natAbs < 100000000) (h4 : d'.natAbs < 100000000) : Gives Tryz.prog 155 [natA z d, natA z' d'] (natA (z * d') (d * z')) := by
  intro W
  refine calls_enter Tryz.func155 rfl rfl rfl ?_
  refine zA ?_
  refine zB ?_
  (refine wl_box rfl rfl rfl rfl ?_; intro)
  (refine wl_box rfl rfl rfl rfl ?_; intro)
  (refine wl_allocZ Tryz.hZ rfl rfl rfl rfl ?_; intro)
  refine wl_nil ?_
  refine zE ?_
  refine zA ?_
  refine zB ?_
  refine wl_pure Tryz.hT rfl rfl rfl ?_
  refine wl_loadBx 0 Tryz.hT rfl rfl rfl rfl rfl rfl rfl rfl ?_
  refine wl_pure Tryz.hT rfl rfl rfl ?_
  refine wl_loadBx 1 Tryz.hT rfl rfl rfl rfl rfl rfl rfl rfl ?_
  refine wl_pure Tryz.hT rfl rfl rfl ?_
  refine wl_upd 9 (.int .i64 (z * d')) rfl (congrArg (Value.int .i64) (w64_mul8 h1 h4)) ?_
  refine wl_pure Tryz.hT rfl rfl rfl ?_
  refine wl_loadBx 0 Tryz.hT rfl rfl rfl rfl rfl rfl rfl rfl ?_
  refine wl_pure Tryz.hT rfl rfl rfl ?_
  refine wl_loadBx 1 Tryz.hT rfl rfl rfl rfl rfl rfl rfl rfl ?_
  refine wl_pure Tryz.hT rfl rfl rfl ?_
  refine wl_upd 14 (.int .i64 (d * z')) rfl (congrArg (Value.int .i64) (w64_mul8 h2 h3)) ?_
  refine wl_buildZ Tryz.hZ Tryz.hT rfl rfl rfl rfl rfl rfl rfl rfl ?_
  refine wl_storeBx 2 Tryz.hT rfl rfl rfl rfl rfl rfl rfl rfl rfl rfl rfl ?_
  refine wl_nil ?_
  refine zE ?_
  refine zO ?_
  exact ne_ret1 Tryz.hT rfl (.cell 2 rfl rfl rfl rfl rfl) () rfl trivial fun W _ => NewBx.nil _ _
/-- A number whose parts are short. -/
def smQ (p : Rat) : Prop := p.num.natAbs < 100000000 ∧ p.den < 100000000
instance (p : Rat) : Decidable (smQ p) := by unfold smQ; infer_instance
theorem natOf_num (p : Rat) : natOfV (numS p) = if smQ p then .tuple #[natA p.num (p.den : Nat), .bool true] else natBad := by
  have hf : frm (numS p) = some (p.num, p.den) := frm_parS _ p.den_pos
  by_cases h : smQ p
  · have e : natOf (numS p) = some (p.num, p.den) := natOf_iff.2 ⟨hf, h.1, h.2, p.reduced⟩
    rw [if_pos h, natOfV, e]
  · have e : natOf (numS p) = none := by
      cases hn : natOf (numS p) with
      | none => rfl
      | some x =>
        obtain ⟨x1, x2⟩ := x
        obtain ⟨e1, e2, e3, _⟩ := natOf_iff.1 hn
        rw [hf] at e1
        injection e1 with e1
        injection e1 with ea eb
        subst ea; subst eb
        exact absurd ⟨e2, e3⟩ h
    rw [if_neg h, natOfV, e]
set_option maxHeartbeats 8000000 in
/-- quick: a short way for short numbers. -/
theorem quick_gives (p q r : Rat) (z d : Int) (g : Nat) (hE : entersB Tryz.prog g = true) (hlp : (numS p).length < 4611686018427387904) (hlq : (numS q).length < 4611686018427387904)
    (hg : smQ p → smQ q → Gives Tryz.prog g [natA p.num (p.den : Nat), natA q.num (q.den : Nat)] (natA z d) ∧ d ≠ 0 ∧ z.natAbs < 1000000000000000000 ∧ d.natAbs < 1000000000000000000 ∧ mkRat (if d < 0 then -z else z) d.natAbs = r) (W : World) (ht : TabP W) :
    CallsR Tryz.prog 98 #[str (numS p), str (numS q), .func (.func g) #[] #[]] W (fun _ : Unit => if smQ p ∧ smQ q then .tuple #[str (numS r), .bool true] else .tuple #[str [], .bool false]) (fun _ => True) (fun _ => []) := by
  refine calls_enter (args := [str (numS p), str (numS q), .func (.func g) #[] #[]]) Tryz.func98 rfl rfl rfl ?_
  refine zA ?_
  refine zB ?_
  iterate 2 refine wl_pure Tryz.hT rfl rfl rfl ?_
  refine wl_nil ?_
  refine zE ?_
  refine zA ?_
  refine zB ?_
  refine wl_pure Tryz.hT rfl rfl rfl ?_
  by_cases hp : smQ p
  · refine wl_call1 rfl rfl rfl rfl rfl rfl (by kernel_rfl) (fun W _ => (nativeOf_gives (numS p) hlp W).cast ((natOf_num p).trans (if_pos hp))) ?_
    iterate 3 refine wl_pure Tryz.hT rfl rfl rfl ?_
    (refine wl_allocZ Tryz.hZ rfl rfl rfl rfl ?_; intro)
    refine wl_storeBx 0 Tryz.hT rfl rfl rfl rfl rfl rfl rfl rfl rfl rfl rfl ?_
    refine wl_pure Tryz.hT rfl rfl rfl ?_
    refine wl_nil ?_
    rename_i b8
    refine zE ?_
    iterate 2 refine zA ?_
    refine zB ?_
    iterate 2 refine wl_pure Tryz.hT rfl rfl rfl ?_
    refine wl_nil ?_
    refine zE ?_
    refine zS rfl ?_
    refine zI ?_
    refine zE ?_
    refine zA ?_
    refine zB ?_
    refine wl_pure Tryz.hT rfl rfl rfl ?_
    by_cases hq : smQ q
    · obtain ⟨hg1, hd, hz1, hd1, hr⟩ := hg hp hq
      refine wl_call1 rfl rfl rfl rfl rfl rfl (by kernel_rfl) (fun W _ => (nativeOf_gives (numS q) hlq W).cast ((natOf_num q).trans (if_pos hq))) ?_
      iterate 3 refine wl_pure Tryz.hT rfl rfl rfl ?_
      (refine wl_allocZ Tryz.hZ rfl rfl rfl rfl ?_; intro)
      refine wl_storeBx 1 Tryz.hT rfl rfl rfl rfl rfl rfl rfl rfl rfl rfl rfl ?_
      refine wl_pure Tryz.hT rfl rfl rfl ?_
      refine wl_nil ?_
      rename_i b10
      refine zE ?_
      iterate 2 refine zA ?_
      refine zB ?_
      iterate 2 refine wl_pure Tryz.hT rfl rfl rfl ?_
      refine wl_nil ?_
      refine zE ?_
      refine zS rfl ?_
      refine zI ?_
      refine zE ?_
      refine zA ?_
      refine zB ?_
      refine wl_pure Tryz.hT rfl rfl rfl ?_
      refine wl_loadBx 0 Tryz.hT rfl rfl rfl rfl rfl rfl rfl rfl ?_
      refine wl_loadBx 1 Tryz.hT rfl rfl rfl rfl rfl rfl rfl rfl ?_
      refine wl_call1 (capt := []) rfl rfl rfl rfl rfl rfl hE (fun W _ => hg1 W) ?_
      refine wl_call1 rfl rfl rfl rfl rfl rfl (by kernel_rfl) (fun W hp => (number_gives z d hd hz1 hd1 W (ht.hp hp)).cast (by rw [hr])) ?_
      iterate 2 refine wl_pure Tryz.hT rfl rfl rfl ?_
      refine wl_nil ?_
      refine zE ?_
      refine zO ?_
      exact ne_ret2 Tryz.hT rfl (.tmp rfl) (.tmp rfl) () (if_pos ⟨hp, hq⟩).symm trivial fun W _ => NewBx.nil _ _
    · refine wl_call1 rfl rfl rfl rfl rfl rfl (by kernel_rfl) (fun W _ => (nativeOf_gives (numS q) hlq W).cast ((natOf_num q).trans (if_neg hq))) ?_
      iterate 3 refine wl_pure Tryz.hT rfl rfl rfl ?_
      (refine wl_allocZ Tryz.hZ rfl rfl rfl rfl ?_; intro)
      refine wl_storeBx 1 Tryz.hT rfl rfl rfl rfl rfl rfl rfl rfl rfl rfl rfl ?_
      refine wl_pure Tryz.hT rfl rfl rfl ?_
      refine wl_nil ?_
      refine zE ?_
      iterate 2 refine zA ?_
      refine zB ?_
      iterate 2 refine wl_pure Tryz.hT rfl rfl rfl ?_
      refine wl_nil ?_
      refine zE ?_
      refine zR rfl ?_
      refine zA ?_
      refine zB ?_
      iterate 2 refine wl_pure Tryz.hT rfl rfl rfl ?_
      refine wl_nil ?_
      refine zE ?_
      refine zO ?_
      refine zP ?_
      exact ne_ret2 Tryz.hT rfl (.tmp rfl) (.tmp rfl) () (if_neg fun h => hq h.2).symm trivial fun W _ => NewBx.nil _ _
  · refine wl_call1 rfl rfl rfl rfl rfl rfl (by kernel_rfl) (fun W _ => (nativeOf_gives (numS p) hlp W).cast ((natOf_num p).trans (if_neg hp))) ?_
    iterate 3 refine wl_pure Tryz.hT rfl rfl rfl ?_
    (refine wl_allocZ Tryz.hZ rfl rfl rfl rfl ?_; intro)
    refine wl_storeBx 0 Tryz.hT rfl rfl rfl rfl rfl rfl rfl rfl rfl rfl rfl ?_
    refine wl_pure Tryz.hT rfl rfl rfl ?_
    refine wl_nil ?_
    refine zE ?_
    iterate 2 refine zA ?_
    refine zB ?_
    iterate 2 refine wl_pure Tryz.hT rfl rfl rfl ?_
    refine wl_nil ?_
    refine zE ?_
    refine zR rfl ?_
    refine zA ?_
    refine zB ?_
    iterate 2 refine wl_pure Tryz.hT rfl rfl rfl ?_
    refine wl_nil ?_
    refine zE ?_
    refine zO ?_
    refine zP ?_
    exact ne_ret2 Tryz.hT rfl (.tmp rfl) (.tmp rfl) () (if_neg fun h => hp h.1).symm trivial fun W _ => NewBx.nil _ _
end Go.Proofs.YtlagebbefnnnnaaGreatDoor
namespace Go.Proofs.YtlagebbefnnnnaaGreatDoor
open Go Go.RowKit Go.Am Go.Lib
set_option maxRecDepth 10000
-- BOXES 4
abbrev prtV (q : Rat) : Value := parA (itoa q.num) (itoa (q.den : Nat))
/-- A number whose parts have at most 300 digits. -/
def okQ (q : Rat) : Prop := okN q.num ∧ okN (q.den : Nat)
theorem resV_N {z : Int} (h : okN z) : resV z = .tuple #[str (itoa z), .int .i64 0] := if_pos h
theorem rd_num {q : Rat} (h : okQ q) : rdV (numS q) = .tuple #[prtV q, .int .i64 0] := by
  have hd : q.den < ten300 := by have := h.2; unfold okN at this; rwa [Int.natAbs_natCast] at this
  have hf : frm (numS q) = some (q.num, q.den) := frm_parS q.num q.den_pos
  rw [rd_ok hf ⟨h.1, hd⟩ q.reduced, ← itoa_eq_dd']
theorem numS_len {q : Rat} (h : okQ q) : (numS q).length ≤ 1000 := by
  have h1 := itoa_len300 h.1
  have h2 := itoa_len300 h.2
  rw [itoa_eq_dd'] at h2
  unfold numS parS
  split
  · omega
  · rw [List.length_append, List.length_cons]; omega
set_option maxHeartbeats 4000000 in
theorem crossed_gives (p q : Rat) (hp : okQ p) (hq : okQ q) (h1 : okN (p.num * (q.den : Nat))) (h2 : okN (q.num * (p.den : Nat))) (W : World) (ht : TabP W) :
    CallsR Tryz.prog 157 #[prtV p, prtV q] W (fun _ : Unit => .tuple #[str (itoa (p.num * (q.den : Nat))), str (itoa (q.num * (p.den : Nat))), .int .i64 0]) (fun _ => True) (fun _ => []) := by
  refine calls_enter (args := [prtV p, prtV q]) Tryz.func157 rfl rfl rfl ?_
  refine zA ?_
  refine zB ?_
  (refine wl_box rfl rfl rfl rfl ?_; intro)
  (refine wl_box rfl rfl rfl rfl ?_; intro)
  iterate 3 refine wl_pure Tryz.hT rfl rfl rfl ?_
  refine wl_nil ?_
  refine zE ?_
  refine zA ?_
  refine zB ?_
  refine wl_pure Tryz.hT rfl rfl rfl ?_
  refine wl_loadBx 0 Tryz.hT rfl rfl rfl rfl rfl rfl rfl rfl ?_
  refine wl_pure Tryz.hT rfl rfl rfl ?_
  refine wl_loadBx 1 Tryz.hT rfl rfl rfl rfl rfl rfl rfl rfl ?_
  refine wl_call1 rfl rfl rfl rfl rfl rfl (by kernel_rfl) (fun W h => (imul_gives p.num (q.den : Nat) hp.1 hq.2 W (ht.hp h)).cast (resV_N h1)) ?_
  iterate 5 refine wl_pure Tryz.hT rfl rfl rfl ?_
  refine wl_nil ?_
  refine zE ?_
  iterate 2 refine zA ?_
  refine zB ?_
  iterate 2 refine wl_pure Tryz.hT rfl rfl rfl ?_
  refine wl_nil ?_
  refine zE ?_
  refine zS rfl ?_
  refine zI ?_
  refine zE ?_
  refine zA ?_
  refine zB ?_
  refine wl_pure Tryz.hT rfl rfl rfl ?_
  refine wl_loadBx 1 Tryz.hT rfl rfl rfl rfl rfl rfl rfl rfl ?_
  refine wl_pure Tryz.hT rfl rfl rfl ?_
  refine wl_loadBx 0 Tryz.hT rfl rfl rfl rfl rfl rfl rfl rfl ?_
  refine wl_call1 rfl rfl rfl rfl rfl rfl (by kernel_rfl) (fun W h => (imul_gives q.num (p.den : Nat) hq.1 hp.2 W (ht.hp h)).cast (resV_N h2)) ?_
  iterate 5 refine wl_pure Tryz.hT rfl rfl rfl ?_
  refine wl_nil ?_
  refine zE ?_
  refine zA ?_
  refine zB ?_
  iterate 6 refine wl_pure Tryz.hT rfl rfl rfl ?_
  refine wl_nil ?_
  refine zE ?_
  refine zO ?_
  exact ne_ret3 Tryz.hT rfl (.tmp rfl) (.tmp rfl) (.tmp rfl) () rfl trivial fun W _ => NewBx.nil _ _
set_option maxHeartbeats 4000000 in
theorem rboth_gives (p q : Rat) (v : List UInt8) (e : Int) (g : Nat) (capt : List Value) (hp : okQ p) (hq : okQ q) (W0 : World) (hv : MaxP W0) (ht : TabP W0) (hE : entersB Tryz.prog g = true)
    (hg : ∀ W, Below W0.heap.size W0 W → CallsR Tryz.prog g ([prtV p, prtV q] ++ capt).toArray W (fun _ : Unit => .tuple #[str v, .int .i64 e]) (fun _ => True) (fun _ => [])) :
    CallsR Tryz.prog 100 #[str (numS p), str (numS q), .func (.func g) #[] capt.toArray] W0 (fun _ : Unit => .tuple #[str v, .int .i64 e]) (fun _ => True) (fun _ => []) := by
  have hlp := numS_len hp
  have hlq := numS_len hq
  refine calls_enter (args := [str (numS p), str (numS q), .func (.func g) #[] capt.toArray]) Tryz.func100 rfl rfl rfl ?_
  refine zA ?_
  refine zB ?_
  iterate 2 refine wl_pure Tryz.hT rfl rfl rfl ?_
  refine wl_nil ?_
  refine zE ?_
  refine zA ?_
  refine zB ?_
  refine wl_pure Tryz.hT rfl rfl rfl ?_
  refine wl_call1 rfl rfl rfl rfl rfl rfl (by kernel_rfl) (fun W h => (rread_gives (numS p) (by omega) W (hv.hp h) (ht.hp h)).cast (rd_num hp)) ?_
  iterate 3 refine wl_pure Tryz.hT rfl rfl rfl ?_
  (refine wl_allocZ Tryz.hZ rfl rfl rfl rfl ?_; intro)
  refine wl_storeBx 0 Tryz.hT rfl rfl rfl rfl rfl rfl rfl rfl rfl rfl rfl ?_
  refine wl_pure Tryz.hT rfl rfl rfl ?_
  refine wl_nil ?_
  rename_i b8
  refine zE ?_
  iterate 2 refine zA ?_
  refine zB ?_
  iterate 2 refine wl_pure Tryz.hT rfl rfl rfl ?_
  refine wl_nil ?_
  refine zE ?_
  refine zS rfl ?_
  refine zI ?_
  refine zE ?_
  refine zA ?_
  refine zB ?_
  refine wl_pure Tryz.hT rfl rfl rfl ?_
  refine wl_call1 rfl rfl rfl rfl rfl rfl (by kernel_rfl) (fun W h => (rread_gives (numS q) (by omega) W (hv.hp h) (ht.hp h)).cast (rd_num hq)) ?_
  iterate 3 refine wl_pure Tryz.hT rfl rfl rfl ?_
  (refine wl_allocZ Tryz.hZ rfl rfl rfl rfl ?_; intro)
  refine wl_storeBx 1 Tryz.hT rfl rfl rfl rfl rfl rfl rfl rfl rfl rfl rfl ?_
  refine wl_pure Tryz.hT rfl rfl rfl ?_
  refine wl_nil ?_
  rename_i b10
  refine zE ?_
  iterate 2 refine zA ?_
  refine zB ?_
  iterate 2 refine wl_pure Tryz.hT rfl rfl rfl ?_
  refine wl_nil ?_
  refine zE ?_
  refine zS rfl ?_
  refine zI ?_
  refine zE ?_
  refine zA ?_
  refine zB ?_
  refine wl_pure Tryz.hT rfl rfl rfl ?_
  refine wl_loadBx 0 Tryz.hT rfl rfl rfl rfl rfl rfl rfl rfl ?_
  refine wl_loadBx 1 Tryz.hT rfl rfl rfl rfl rfl rfl rfl rfl ?_
  refine wl_call1 (capt := capt) rfl rfl rfl rfl rfl rfl hE (fun W h => hg W h.below) ?_
  iterate 4 refine wl_pure Tryz.hT rfl rfl rfl ?_
  refine wl_nil ?_
  refine zE ?_
  refine zO ?_
  exact ne_ret2 Tryz.hT rfl (.tmp rfl) (.tmp rfl) () rfl trivial fun W _ => NewBx.nil _ _
end Go.Proofs.YtlagebbefnnnnaaGreatDoor
namespace Go.Proofs.YtlagebbefnnnnaaGreatDoor
open Go Go.Lib
abbrev nrm (z d : Int) : Rat := mkRat (if d < 0 then -z else z) d.natAbs
theorem nrm_div (z : Int) {d : Int} (hd : d ≠ 0) : nrm z d = Rat.divInt z d := by
  unfold nrm
  cases d with
  | ofNat n =>
    rw [if_neg (by intro h; exact absurd h (by simp))]
    rfl
  | negSucc n =>
    rw [if_pos (Int.negSucc_lt_zero n)]
    show mkRat (-z) (n + 1) = _
    rw [Rat.divInt]
    rw [Rat.normalize_eq_mkRat]
theorem rat_add (p q : Rat) : nrm (p.num * (q.den : Nat) + q.num * (p.den : Nat)) ((p.den : Nat) * (q.den : Nat)) = p + q := by
  have h1 : ((p.den : Nat) : Int) ≠ 0 := by have := p.den_nz; omega
  have h2 : ((q.den : Nat) : Int) ≠ 0 := by have := q.den_nz; omega
  rw [nrm_div _ (Int.mul_ne_zero h1 h2)]
  rw [← Rat.divInt_add_divInt _ _ h1 h2, Rat.num_divInt_den, Rat.num_divInt_den]
theorem rat_sub (p q : Rat) : nrm (p.num * (q.den : Nat) - q.num * (p.den : Nat)) ((p.den : Nat) * (q.den : Nat)) = p - q := by
  have h1 : ((p.den : Nat) : Int) ≠ 0 := by have := p.den_nz; omega
  have h2 : ((q.den : Nat) : Int) ≠ 0 := by have := q.den_nz; omega
  rw [nrm_div _ (Int.mul_ne_zero h1 h2)]
  rw [← Rat.divInt_sub_divInt _ _ h1 h2, Rat.num_divInt_den, Rat.num_divInt_den]
theorem rat_mul (p q : Rat) : nrm (p.num * q.num) ((p.den : Nat) * (q.den : Nat)) = p * q := by
  have h1 : ((p.den : Nat) : Int) ≠ 0 := by have := p.den_nz; omega
  have h2 : ((q.den : Nat) : Int) ≠ 0 := by have := q.den_nz; omega
  rw [nrm_div _ (Int.mul_ne_zero h1 h2)]
  rw [← Rat.divInt_mul_divInt, Rat.num_divInt_den, Rat.num_divInt_den]
theorem rat_div (p q : Rat) (hq : q.num ≠ 0) : nrm (p.num * (q.den : Nat)) ((p.den : Nat) * q.num) = p / q := by
  have h1 : ((p.den : Nat) : Int) ≠ 0 := by have := p.den_nz; omega
  rw [nrm_div _ (Int.mul_ne_zero h1 hq)]
  rw [← Rat.divInt_mul_divInt, Rat.num_divInt_den, Rat.div_def, Rat.inv_def]
/-- How long a number's parts are. -/
def szQ (q : Rat) (k : Nat) : Prop := q.num.natAbs < 10 ^ k ∧ q.den < 10 ^ k
theorem nrm_num (z : Int) {d : Int} (hd : d ≠ 0) {k : Nat} (hz : z.natAbs < 10 ^ k) (hd2 : d.natAbs < 10 ^ k) : szQ (nrm z d) k := by
  have h0 : d.natAbs ≠ 0 := by omega
  have hx : (if d < 0 then -z else z).natAbs = z.natAbs := by split; rw [Int.natAbs_neg]; rfl
  unfold nrm
  rw [mkRat, dif_neg h0, Rat.normalize_eq]
  constructor
  · show ((if d < 0 then -z else z) / _).natAbs < _
    refine Nat.lt_of_le_of_lt ?_ hz
    rw [← hx]
    exact Int.natAbs_ediv_le_natAbs ..
  · exact Nat.lt_of_le_of_lt (Nat.div_le_self ..) hd2
end Go.Proofs.YtlagebbefnnnnaaGreatDoor
namespace Go.Proofs.YtlagebbefnnnnaaGreatDoor
open Go Go.RowKit Go.Am Go.Lib
set_option maxRecDepth 10000
-- BOXES 4
theorem combined_gives (h : Nat) (W : World) : CallsR Tryz.prog 101 #[.func (.func h) #[] #[]] W (fun b : Nat => .func (.func 179) #[] #[selfP b]) (fun _ => True) (fun b => [⟨b, 143, [.func (.func h) #[] #[]], true, none⟩]) := by
  refine calls_enter (args := [.func (.func h) #[] #[]]) Tryz.func101 rfl rfl rfl ?_
  refine zA ?_
  refine zB ?_
  refine wl_box rfl rfl rfl rfl ?_; intro b
  refine wl_pure Tryz.hT rfl rfl rfl ?_
  refine wl_nil ?_
  refine zE ?_
  refine zA ?_
  refine zB ?_
  iterate 2 refine wl_pure Tryz.hT rfl rfl rfl ?_
  refine wl_nil ?_
  refine zE ?_
  refine zO ?_
  exact ne_ret1 Tryz.hT rfl (.tmp rfl) b rfl trivial fun W hp => NewBx.of_hp hp
theorem okN_den {p q : Rat} : ((p.den : Nat) : Int) * (q.den : Nat) ≠ 0 := Int.mul_ne_zero (by have := p.den_nz; omega) (by have := q.den_nz; omega)
set_option maxHeartbeats 8000000 in
theorem combC_gives (p q : Rat) (b h : Nat) (z : Int) (hp : okQ p) (hq : okQ q) (h1 : okN (p.num * (q.den : Nat))) (h2 : okN (q.num * (p.den : Nat))) (hz : okN z) (hd : okN ((p.den : Nat) * (q.den : Nat))) (hE : entersB Tryz.prog h = true)
    (hop : ∀ W, TabP W → CallsR Tryz.prog h #[str (itoa (p.num * (q.den : Nat))), str (itoa (q.num * (p.den : Nat)))] W (fun _ : Unit => .tuple #[str (itoa z), .int .i64 0]) (fun _ => True) (fun _ => [])) (W : World) (ht : TabP W) (hrow : RowAt W b 0 [.func (.func h) #[] #[]]) :
    CallsR Tryz.prog 179 #[prtV p, prtV q, selfP b] W (fun _ : Unit => .tuple #[str (numS (nrm z ((p.den : Nat) * (q.den : Nat)))), .int .i64 0]) (fun _ => True) (fun _ => []) := by
  refine calls_enter (args := [prtV p, prtV q, selfP b]) Tryz.func179 rfl rfl rfl ?_
  refine zA ?_
  refine zB ?_
  (refine wl_box rfl rfl rfl rfl ?_; intro)
  (refine wl_box rfl rfl rfl rfl ?_; intro)
  iterate 2 refine wl_pure Tryz.hT rfl rfl rfl ?_
  refine wl_nil ?_
  refine zE ?_
  refine zA ?_
  refine zB ?_
  refine wl_loadBx 0 Tryz.hT rfl rfl rfl rfl rfl rfl rfl rfl ?_
  refine wl_loadBx 1 Tryz.hT rfl rfl rfl rfl rfl rfl rfl rfl ?_
  refine wl_call1 rfl rfl rfl rfl rfl rfl (by kernel_rfl) (fun W h => crossed_gives p q hp hq h1 h2 W (ht.hp h)) ?_
  iterate 7 refine wl_pure Tryz.hT rfl rfl rfl ?_
  refine wl_nil ?_
  refine zE ?_
  iterate 2 refine zA ?_
  refine zB ?_
  iterate 2 refine wl_pure Tryz.hT rfl rfl rfl ?_
  refine wl_nil ?_
  refine zE ?_
  refine zS rfl ?_
  refine zI ?_
  refine zE ?_
  refine zA ?_
  refine zB ?_
  refine wl_load rfl rfl rfl rfl (fun W hp => RowAt.load 0 Tryz.hT rfl ((fun W h => hrow.hp h) W hp) rfl) ?_
  iterate 2 refine wl_pure Tryz.hT rfl rfl rfl ?_
  refine wl_call1 (capt := []) rfl rfl rfl rfl rfl rfl hE (fun W h => hop W (ht.hp h)) ?_
  iterate 5 refine wl_pure Tryz.hT rfl rfl rfl ?_
  refine wl_nil ?_
  refine zE ?_
  iterate 2 refine zA ?_
  refine zB ?_
  iterate 2 refine wl_pure Tryz.hT rfl rfl rfl ?_
  refine wl_nil ?_
  refine zE ?_
  refine zS rfl ?_
  refine zI ?_
  refine zE ?_
  refine zA ?_
  refine zB ?_
  refine wl_pure Tryz.hT rfl rfl rfl ?_
  refine wl_loadBx 0 Tryz.hT rfl rfl rfl rfl rfl rfl rfl rfl ?_
  refine wl_pure Tryz.hT rfl rfl rfl ?_
  refine wl_loadBx 1 Tryz.hT rfl rfl rfl rfl rfl rfl rfl rfl ?_
  refine wl_call1 rfl rfl rfl rfl rfl rfl (by kernel_rfl) (fun W h => (imul_gives (p.den : Nat) (q.den : Nat) hp.2 hq.2 W (ht.hp h)).cast (resV_N hd)) ?_
  iterate 5 refine wl_pure Tryz.hT rfl rfl rfl ?_
  refine wl_nil ?_
  refine zE ?_
  iterate 2 refine zA ?_
  refine zB ?_
  iterate 2 refine wl_pure Tryz.hT rfl rfl rfl ?_
  refine wl_nil ?_
  refine zE ?_
  refine zS rfl ?_
  refine zI ?_
  refine zE ?_
  refine zA ?_
  refine zB ?_
  iterate 2 refine wl_pure Tryz.hT rfl rfl rfl ?_
  refine wl_call1 rfl rfl rfl rfl rfl rfl (by kernel_rfl) (fun W h => ratNumber_gives z ((p.den : Nat) * (q.den : Nat)) okN_den hz hd W (ht.hp h)) ?_
  iterate 4 refine wl_pure Tryz.hT rfl rfl rfl ?_
  refine wl_nil ?_
  refine zE ?_
  refine zO ?_
  exact ne_ret2 Tryz.hT rfl (.tmp rfl) (.tmp rfl) () rfl trivial fun W _ => NewBx.nil _ _
set_option maxHeartbeats 8000000 in
theorem mul2_gives (p q : Rat) (hp : okQ p) (hq : okQ q) (hz : okN (p.num * q.num)) (hd : okN ((p.den : Nat) * (q.den : Nat))) (W : World) (ht : TabP W) :
    CallsR Tryz.prog 201 #[prtV p, prtV q] W (fun _ : Unit => .tuple #[str (numS (p * q)), .int .i64 0]) (fun _ => True) (fun _ => []) := by
  refine calls_enter (args := [prtV p, prtV q]) Tryz.func201 rfl rfl rfl ?_
  refine zA ?_
  refine zB ?_
  (refine wl_box rfl rfl rfl rfl ?_; intro)
  (refine wl_box rfl rfl rfl rfl ?_; intro)
  iterate 2 refine wl_pure Tryz.hT rfl rfl rfl ?_
  refine wl_nil ?_
  refine zE ?_
  refine zA ?_
  refine zB ?_
  refine wl_pure Tryz.hT rfl rfl rfl ?_
  refine wl_loadBx 0 Tryz.hT rfl rfl rfl rfl rfl rfl rfl rfl ?_
  refine wl_pure Tryz.hT rfl rfl rfl ?_
  refine wl_loadBx 1 Tryz.hT rfl rfl rfl rfl rfl rfl rfl rfl ?_
  refine wl_call1 rfl rfl rfl rfl rfl rfl (by kernel_rfl) (fun W h => (imul_gives p.num q.num hp.1 hq.1 W (ht.hp h)).cast (resV_N hz)) ?_
  iterate 5 refine wl_pure Tryz.hT rfl rfl rfl ?_
  refine wl_nil ?_
  refine zE ?_
  iterate 2 refine zA ?_
  refine zB ?_
  iterate 2 refine wl_pure Tryz.hT rfl rfl rfl ?_
  refine wl_nil ?_
  refine zE ?_
  refine zS rfl ?_
  refine zI ?_
  refine zE ?_
  refine zA ?_
  refine zB ?_
  refine wl_pure Tryz.hT rfl rfl rfl ?_
  refine wl_loadBx 0 Tryz.hT rfl rfl rfl rfl rfl rfl rfl rfl ?_
  refine wl_pure Tryz.hT rfl rfl rfl ?_
  refine wl_loadBx 1 Tryz.hT rfl rfl rfl rfl rfl rfl rfl rfl ?_
  refine wl_call1 rfl rfl rfl rfl rfl rfl (by kernel_rfl) (fun W h => (imul_gives (p.den : Nat) (q.den : Nat) hp.2 hq.2 W (ht.hp h)).cast (resV_N hd)) ?_
  iterate 5 refine wl_pure Tryz.hT rfl rfl rfl ?_
  refine wl_nil ?_
  refine zE ?_
  iterate 2 refine zA ?_
  refine zB ?_
  iterate 2 refine wl_pure Tryz.hT rfl rfl rfl ?_
  refine wl_nil ?_
  refine zE ?_
  refine zS rfl ?_
  refine zI ?_
  refine zE ?_
  refine zA ?_
  refine zB ?_
  iterate 2 refine wl_pure Tryz.hT rfl rfl rfl ?_
  refine wl_call1 rfl rfl rfl rfl rfl rfl (by kernel_rfl) (fun W h => (ratNumber_gives (p.num * q.num) ((p.den : Nat) * (q.den : Nat)) okN_den hz hd W (ht.hp h)).cast (congrArg (fun r => Value.tuple #[str (numS r), .int .i64 0]) (rat_mul p q))) ?_
  iterate 4 refine wl_pure Tryz.hT rfl rfl rfl ?_
  refine wl_nil ?_
  refine zE ?_
  refine zO ?_
  exact ne_ret2 Tryz.hT rfl (.tmp rfl) (.tmp rfl) () rfl trivial fun W _ => NewBx.nil _ _
/-- What Div gives at 0 is error 12. -/
def divR (p q : Rat) : List UInt8 × Int := if q.num = 0 then ([], 12) else (numS (p / q), 0)
theorem rat_div' (p q : Rat) (hq : q.num ≠ 0) : nrm (p.num * (q.den : Nat)) (q.num * (p.den : Nat)) = p / q := by rw [Int.mul_comm q.num, rat_div p q hq]
set_option maxHeartbeats 8000000 in
theorem div2_gives (p q : Rat) (hp : okQ p) (hq : okQ q) (h1 : okN (p.num * (q.den : Nat))) (h2 : okN (q.num * (p.den : Nat))) (W : World) (ht : TabP W) :
    CallsR Tryz.prog 156 #[prtV p, prtV q] W (fun _ : Unit => .tuple #[str (divR p q).1, .int .i64 (divR p q).2]) (fun _ => True) (fun _ => []) := by
  refine calls_enter (args := [prtV p, prtV q]) Tryz.func156 rfl rfl rfl ?_
  refine zA ?_
  refine zB ?_
  (refine wl_box rfl rfl rfl rfl ?_; intro)
  (refine wl_box rfl rfl rfl rfl ?_; intro)
  iterate 2 refine wl_pure Tryz.hT rfl rfl rfl ?_
  refine wl_nil ?_
  refine zE ?_
  iterate 2 refine zA ?_
  refine zB ?_
  refine wl_pure Tryz.hT rfl rfl rfl ?_
  refine wl_loadBx 1 Tryz.hT rfl rfl rfl rfl rfl rfl rfl rfl ?_
  refine wl_pure Tryz.hT rfl rfl rfl ?_
  by_cases h0 : q.num = 0
  · refine wl_upd 11 (.bool true) rfl (congrArg Value.bool ((strEqB _ [48]).trans (decide_eq_true (itoa_0.2 h0)))) ?_
    refine wl_nil ?_
    refine zE ?_
    refine zR rfl ?_
    refine zA ?_
    refine zB ?_
    iterate 2 refine wl_pure Tryz.hT rfl rfl rfl ?_
    refine wl_nil ?_
    refine zE ?_
    refine zO ?_
    refine zP ?_
    exact ne_ret2 Tryz.hT rfl (.tmp rfl) (.tmp rfl) () (by rw [divR, if_pos h0]) trivial fun W _ => NewBx.nil _ _
  · refine wl_upd 11 (.bool false) rfl (congrArg Value.bool ((strEqB _ [48]).trans (decide_eq_false fun e => h0 (itoa_0.1 e)))) ?_
    refine wl_nil ?_
    refine zE ?_
    refine zS rfl ?_
    refine zI ?_
    refine zE ?_
    refine zA ?_
    refine zB ?_
    refine wl_loadBx 0 Tryz.hT rfl rfl rfl rfl rfl rfl rfl rfl ?_
    refine wl_loadBx 1 Tryz.hT rfl rfl rfl rfl rfl rfl rfl rfl ?_
    refine wl_call1 rfl rfl rfl rfl rfl rfl (by kernel_rfl) (fun W h => crossed_gives p q hp hq h1 h2 W (ht.hp h)) ?_
    iterate 7 refine wl_pure Tryz.hT rfl rfl rfl ?_
    refine wl_nil ?_
    refine zE ?_
    iterate 2 refine zA ?_
    refine zB ?_
    iterate 2 refine wl_pure Tryz.hT rfl rfl rfl ?_
    refine wl_nil ?_
    refine zE ?_
    refine zS rfl ?_
    refine zI ?_
    refine zE ?_
    refine zA ?_
    refine zB ?_
    iterate 2 refine wl_pure Tryz.hT rfl rfl rfl ?_
    refine wl_call1 rfl rfl rfl rfl rfl rfl (by kernel_rfl) (fun W h => (ratNumber_gives (p.num * (q.den : Nat)) (q.num * (p.den : Nat)) (Int.mul_ne_zero h0 (by have := p.den_nz; omega)) h1 h2 W (ht.hp h)).cast (congrArg (fun r => Value.tuple #[str (numS r), .int .i64 0]) (rat_div' p q h0))) ?_
    iterate 4 refine wl_pure Tryz.hT rfl rfl rfl ?_
    refine wl_nil ?_
    refine zE ?_
    refine zO ?_
    exact ne_ret2 Tryz.hT rfl (.tmp rfl) (.tmp rfl) () (by rw [divR, if_neg h0]) trivial fun W _ => NewBx.nil _ _
end Go.Proofs.YtlagebbefnnnnaaGreatDoor
namespace Go.Proofs.YtlagebbefnnnnaaGreatDoor
open Go Go.RowKit Go.Am Go.Lib
set_option maxRecDepth 10000
-- BOXES 4
theorem okN_pow {z : Int} {k : Nat} (h : z.natAbs < 10 ^ k) (hk : k ≤ 300) : okN z := Nat.lt_of_lt_of_le h (Nat.pow_le_pow_right (by decide) (show k ≤ mxd from hk))
theorem szQ.ok {q : Rat} {k : Nat} (h : szQ q k) (hk : k ≤ 300) : okQ q := ⟨okN_pow h.1 hk, okN_pow (k := k) (by rw [Int.natAbs_natCast]; exact h.2) hk⟩
theorem szQ.mono {q : Rat} {k m : Nat} (h : szQ q k) (hk : k ≤ m) : szQ q m := ⟨Nat.lt_of_lt_of_le h.1 (Nat.pow_le_pow_right (by decide) hk), Nat.lt_of_lt_of_le h.2 (Nat.pow_le_pow_right (by decide) hk)⟩
theorem imul_pow {x y : Int} {a b : Nat} (hx : x.natAbs < 10 ^ a) (hy : y.natAbs < 10 ^ b) : (x * y).natAbs < 10 ^ (a + b) := by
  rw [Int.natAbs_mul]; exact mul_pow hx hy (Nat.le_refl _)
theorem iadd_pow {x y : Int} {a : Nat} (hx : x.natAbs < 10 ^ a) (hy : y.natAbs < 10 ^ a) : (x + y).natAbs < 10 ^ (a + 1) := by
  rw [Nat.pow_succ]; omega
theorem isub_pow {x y : Int} {a : Nat} (hx : x.natAbs < 10 ^ a) (hy : y.natAbs < 10 ^ a) : (x - y).natAbs < 10 ^ (a + 1) := by
  rw [Nat.pow_succ]; omega
/-- What two numbers' sizes give. -/
structure Sz2 (p q : Rat) : Prop where
  okp : okQ p
  okq : okQ q
  c1 : okN (p.num * (q.den : Nat))
  c2 : okN (q.num * (p.den : Nat))
  d : okN ((p.den : Nat) * (q.den : Nat))
  n : okN (p.num * q.num)
  add : okN (p.num * (q.den : Nat) + q.num * (p.den : Nat))
  sub : okN (p.num * (q.den : Nat) - q.num * (p.den : Nat))
theorem sz2 {p q : Rat} {a b : Nat} (hp : szQ p a) (hq : szQ q b) (hk : a + b + 1 ≤ 300) : Sz2 p q := by
  have hqd : ((q.den : Nat) : Int).natAbs < 10 ^ b := by rw [Int.natAbs_natCast]; exact hq.2
  have hpd : ((p.den : Nat) : Int).natAbs < 10 ^ a := by rw [Int.natAbs_natCast]; exact hp.2
  have e1 := imul_pow hp.1 hqd
  have e2 := imul_pow hq.1 hpd
  rw [Nat.add_comm b a] at e2
  exact ⟨hp.ok (by omega), hq.ok (by omega), okN_pow e1 (by omega), okN_pow e2 (by omega), okN_pow (imul_pow hpd hqd) (by omega), okN_pow (imul_pow hp.1 hq.1) (by omega), okN_pow (iadd_pow e1 e2) hk, okN_pow (isub_pow e1 e2) hk⟩
theorem szQ.add {p q : Rat} {a b : Nat} (hp : szQ p a) (hq : szQ q b) : szQ (p + q) (a + b + 1) := by
  have hqd : ((q.den : Nat) : Int).natAbs < 10 ^ b := by rw [Int.natAbs_natCast]; exact hq.2
  have hpd : ((p.den : Nat) : Int).natAbs < 10 ^ a := by rw [Int.natAbs_natCast]; exact hp.2
  have e1 := imul_pow hp.1 hqd
  have e2 := imul_pow hq.1 hpd
  rw [Nat.add_comm b a] at e2
  rw [← rat_add]
  exact nrm_num _ okN_den (iadd_pow e1 e2) (Nat.lt_of_lt_of_le (imul_pow hpd hqd) (Nat.pow_le_pow_right (by decide) (by omega)))
theorem szQ.sub {p q : Rat} {a b : Nat} (hp : szQ p a) (hq : szQ q b) : szQ (p - q) (a + b + 1) := by
  have hqd : ((q.den : Nat) : Int).natAbs < 10 ^ b := by rw [Int.natAbs_natCast]; exact hq.2
  have hpd : ((p.den : Nat) : Int).natAbs < 10 ^ a := by rw [Int.natAbs_natCast]; exact hp.2
  have e1 := imul_pow hp.1 hqd
  have e2 := imul_pow hq.1 hpd
  rw [Nat.add_comm b a] at e2
  rw [← rat_sub]
  exact nrm_num _ okN_den (isub_pow e1 e2) (Nat.lt_of_lt_of_le (imul_pow hpd hqd) (Nat.pow_le_pow_right (by decide) (by omega)))
theorem szQ.mul {p q : Rat} {a b : Nat} (hp : szQ p a) (hq : szQ q b) : szQ (p * q) (a + b) := by
  have hqd : ((q.den : Nat) : Int).natAbs < 10 ^ b := by rw [Int.natAbs_natCast]; exact hq.2
  have hpd : ((p.den : Nat) : Int).natAbs < 10 ^ a := by rw [Int.natAbs_natCast]; exact hp.2
  rw [← rat_mul]
  exact nrm_num _ okN_den (imul_pow hp.1 hq.1) (imul_pow hpd hqd)
theorem szQ.div {p q : Rat} {a b : Nat} (hp : szQ p a) (hq : szQ q b) (h0 : q.num ≠ 0) : szQ (p / q) (a + b) := by
  have hqd : ((q.den : Nat) : Int).natAbs < 10 ^ b := by rw [Int.natAbs_natCast]; exact hq.2
  have hpd : ((p.den : Nat) : Int).natAbs < 10 ^ a := by rw [Int.natAbs_natCast]; exact hp.2
  rw [← rat_div p q h0]
  exact nrm_num _ (Int.mul_ne_zero (by have := p.den_nz; omega) h0) (imul_pow hp.1 hqd) (imul_pow hpd hq.1)
theorem TabP.below {W0 W : World} (h : TabP W0) (hb : Below W0.heap.size W0 W) : TabP W := tabBelow_of_tabIs h W hb
theorem sm_d (p : Rat) (h : smQ p) : ((p.den : Nat) : Int).natAbs < 100000000 := by rw [Int.natAbs_natCast]; exact h.2
set_option maxHeartbeats 8000000 in
theorem radd_gives (p q : Rat) (h : Sz2 p q) (W0 : World) (hv : MaxP W0) (ht : TabP W0) :
    CallsR Tryz.prog 41 #[str (numS p), str (numS q)] W0 (fun _ : Unit => .tuple #[str (numS (p + q)), .int .i64 0]) (fun _ => True) (fun _ => []) := by
  have hlp := numS_len h.okp
  have hlq := numS_len h.okq
  refine calls_enter (args := [str (numS p), str (numS q)]) Tryz.func41 rfl rfl rfl ?_
  refine zA ?_
  refine zB ?_
  iterate 2 refine wl_pure Tryz.hT rfl rfl rfl ?_
  refine wl_nil ?_
  refine zE ?_
  iterate 2 refine zA ?_
  refine zB ?_
  iterate 2 refine wl_pure Tryz.hT rfl rfl rfl ?_
  have hquick : ∀ W, TabP W → CallsR Tryz.prog 98 #[str (numS p), str (numS q), .func (.func 99) #[] #[]] W (fun _ : Unit => if smQ p ∧ smQ q then .tuple #[str (numS (p + q)), .bool true] else .tuple #[str [], .bool false]) (fun _ => True) (fun _ => []) :=
    fun W ht => quick_gives p q (p + q) (p.num * (q.den : Nat) + q.num * (p.den : Nat)) ((p.den : Nat) * (q.den : Nat)) _ (by kernel_rfl) (by omega) (by omega) (fun hp hq => by
      have m1 := mul_8 hp.1 (sm_d q hq)
      have m2 := mul_8 hq.1 (sm_d p hp)
      have m3 := mul_8 (sm_d p hp) (sm_d q hq)
      exact ⟨addC_gives _ _ _ _ hp.1 (sm_d p hp) hq.1 (sm_d q hq), okN_den, by omega, by omega, rat_add p q⟩) W ht
  by_cases hs : smQ p ∧ smQ q
  · refine wl_call1 rfl rfl rfl rfl rfl rfl (by kernel_rfl) (fun W h => (hquick W (ht.hp h)).cast (if_pos hs)) ?_
    iterate 5 refine wl_pure Tryz.hT rfl rfl rfl ?_
    refine wl_nil ?_
    refine zE ?_
    refine zA ?_
    refine zB ?_
    refine wl_pure Tryz.hT rfl rfl rfl ?_
    refine wl_nil ?_
    refine zE ?_
    refine zR rfl ?_
    refine zA ?_
    refine zB ?_
    iterate 3 refine wl_pure Tryz.hT rfl rfl rfl ?_
    refine wl_nil ?_
    refine zE ?_
    refine zO ?_
    refine zP ?_
    exact ne_ret2 Tryz.hT rfl (.tmp rfl) (.tmp rfl) () rfl trivial fun W _ => NewBx.nil _ _
  · refine wl_call1 rfl rfl rfl rfl rfl rfl (by kernel_rfl) (fun W h => (hquick W (ht.hp h)).cast (if_neg hs)) ?_
    iterate 5 refine wl_pure Tryz.hT rfl rfl rfl ?_
    refine wl_nil ?_
    refine zE ?_
    refine zA ?_
    refine zB ?_
    refine wl_pure Tryz.hT rfl rfl rfl ?_
    refine wl_nil ?_
    refine zE ?_
    refine zS rfl ?_
    refine zI ?_
    refine zE ?_
    refine zA ?_
    refine zB ?_
    iterate 2 refine wl_pure Tryz.hT rfl rfl rfl ?_
    refine wl_call (X := Nat) rfl rfl rfl rfl rfl rfl (by kernel_rfl) (fun W _ => combined_gives 102 W) ?_
    intro b18 _
    refine wl_call1 rfl rfl rfl rfl rfl rfl (by kernel_rfl) (fun W hp => rboth_gives p q (numS (p + q)) 0 179 [selfP b18] h.okp h.okq W (hv.hp hp) (ht.hp hp) (by kernel_rfl) (fun W' hb => (combC_gives p q b18 102 (p.num * (q.den : Nat) + q.num * (p.den : Nat)) h.okp h.okq h.c1 h.c2 h.add h.d (by kernel_rfl) (fun W2 ht2 => (iaddS_gives _ _ h.c1 h.c2 W2 ht2).cast (resV_N h.add)) W' ((ht.hp hp).below hb) ((RowAt.of_bx hp 0 rfl rfl).below (Nat.le_refl _) hb)).cast (congrArg (fun r => Value.tuple #[str (numS r), .int .i64 0]) (rat_add p q)))) ?_
    iterate 4 refine wl_pure Tryz.hT rfl rfl rfl ?_
    refine wl_nil ?_
    refine zE ?_
    refine zO ?_
    exact ne_ret2 Tryz.hT rfl (.tmp rfl) (.tmp rfl) () rfl trivial fun W _ => NewBx.nil _ _
end Go.Proofs.YtlagebbefnnnnaaGreatDoor
namespace Go.Proofs.YtlagebbefnnnnaaGreatDoor
open Go Go.RowKit Go.Am Go.Lib
set_option maxRecDepth 10000
-- BOXES 4
set_option maxHeartbeats 8000000 in
theorem rsub_gives (p q : Rat) (h : Sz2 p q) (W0 : World) (hv : MaxP W0) (ht : TabP W0) :
    CallsR Tryz.prog 78 #[str (numS p), str (numS q)] W0 (fun _ : Unit => .tuple #[str (numS (p - q)), .int .i64 0]) (fun _ => True) (fun _ => []) := by
  have hlp := numS_len h.okp
  have hlq := numS_len h.okq
  refine calls_enter (args := [str (numS p), str (numS q)]) Tryz.func78 rfl rfl rfl ?_
  refine zA ?_
  refine zB ?_
  iterate 2 refine wl_pure Tryz.hT rfl rfl rfl ?_
  refine wl_nil ?_
  refine zE ?_
  iterate 2 refine zA ?_
  refine zB ?_
  iterate 2 refine wl_pure Tryz.hT rfl rfl rfl ?_
  have hquick : ∀ W, TabP W → CallsR Tryz.prog 98 #[str (numS p), str (numS q), .func (.func 158) #[] #[]] W (fun _ : Unit => if smQ p ∧ smQ q then .tuple #[str (numS (p - q)), .bool true] else .tuple #[str [], .bool false]) (fun _ => True) (fun _ => []) :=
    fun W ht => quick_gives p q (p - q) (p.num * (q.den : Nat) - q.num * (p.den : Nat)) ((p.den : Nat) * (q.den : Nat)) _ (by kernel_rfl) (by omega) (by omega) (fun hp hq => by
      have m1 := mul_8 hp.1 (sm_d q hq)
      have m2 := mul_8 hq.1 (sm_d p hp)
      have m3 := mul_8 (sm_d p hp) (sm_d q hq)
      exact ⟨subC_gives _ _ _ _ hp.1 (sm_d p hp) hq.1 (sm_d q hq), okN_den, by omega, by omega, rat_sub p q⟩) W ht
  by_cases hs : smQ p ∧ smQ q
  · refine wl_call1 rfl rfl rfl rfl rfl rfl (by kernel_rfl) (fun W h => (hquick W (ht.hp h)).cast (if_pos hs)) ?_
    iterate 5 refine wl_pure Tryz.hT rfl rfl rfl ?_
    refine wl_nil ?_
    refine zE ?_
    refine zA ?_
    refine zB ?_
    refine wl_pure Tryz.hT rfl rfl rfl ?_
    refine wl_nil ?_
    refine zE ?_
    refine zR rfl ?_
    refine zA ?_
    refine zB ?_
    iterate 3 refine wl_pure Tryz.hT rfl rfl rfl ?_
    refine wl_nil ?_
    refine zE ?_
    refine zO ?_
    refine zP ?_
    exact ne_ret2 Tryz.hT rfl (.tmp rfl) (.tmp rfl) () rfl trivial fun W _ => NewBx.nil _ _
  · refine wl_call1 rfl rfl rfl rfl rfl rfl (by kernel_rfl) (fun W h => (hquick W (ht.hp h)).cast (if_neg hs)) ?_
    iterate 5 refine wl_pure Tryz.hT rfl rfl rfl ?_
    refine wl_nil ?_
    refine zE ?_
    refine zA ?_
    refine zB ?_
    refine wl_pure Tryz.hT rfl rfl rfl ?_
    refine wl_nil ?_
    refine zE ?_
    refine zS rfl ?_
    refine zI ?_
    refine zE ?_
    refine zA ?_
    refine zB ?_
    iterate 2 refine wl_pure Tryz.hT rfl rfl rfl ?_
    refine wl_call (X := Nat) rfl rfl rfl rfl rfl rfl (by kernel_rfl) (fun W _ => combined_gives 159 W) ?_
    intro b18 _
    refine wl_call1 rfl rfl rfl rfl rfl rfl (by kernel_rfl) (fun W hp => rboth_gives p q (numS (p - q)) 0 179 [selfP b18] h.okp h.okq W (hv.hp hp) (ht.hp hp) (by kernel_rfl) (fun W' hb => (combC_gives p q b18 159 (p.num * (q.den : Nat) - q.num * (p.den : Nat)) h.okp h.okq h.c1 h.c2 h.sub h.d (by kernel_rfl) (fun W2 ht2 => (isub_gives _ _ h.c1 h.c2 W2 ht2).cast (resV_N h.sub)) W' ((ht.hp hp).below hb) ((RowAt.of_bx hp 0 rfl rfl).below (Nat.le_refl _) hb)).cast (congrArg (fun r => Value.tuple #[str (numS r), .int .i64 0]) (rat_sub p q)))) ?_
    iterate 4 refine wl_pure Tryz.hT rfl rfl rfl ?_
    refine wl_nil ?_
    refine zE ?_
    refine zO ?_
    exact ne_ret2 Tryz.hT rfl (.tmp rfl) (.tmp rfl) () rfl trivial fun W _ => NewBx.nil _ _
set_option maxHeartbeats 8000000 in
theorem rmul_gives (p q : Rat) (h : Sz2 p q) (W0 : World) (hv : MaxP W0) (ht : TabP W0) :
    CallsR Tryz.prog 134 #[str (numS p), str (numS q)] W0 (fun _ : Unit => .tuple #[str (numS (p * q)), .int .i64 0]) (fun _ => True) (fun _ => []) := by
  have hlp := numS_len h.okp
  have hlq := numS_len h.okq
  refine calls_enter (args := [str (numS p), str (numS q)]) Tryz.func134 rfl rfl rfl ?_
  refine zA ?_
  refine zB ?_
  iterate 2 refine wl_pure Tryz.hT rfl rfl rfl ?_
  refine wl_nil ?_
  refine zE ?_
  iterate 2 refine zA ?_
  refine zB ?_
  iterate 2 refine wl_pure Tryz.hT rfl rfl rfl ?_
  have hquick : ∀ W, TabP W → CallsR Tryz.prog 98 #[str (numS p), str (numS q), .func (.func 200) #[] #[]] W (fun _ : Unit => if smQ p ∧ smQ q then .tuple #[str (numS (p * q)), .bool true] else .tuple #[str [], .bool false]) (fun _ => True) (fun _ => []) :=
    fun W ht => quick_gives p q (p * q) (p.num * q.num) ((p.den : Nat) * (q.den : Nat)) _ (by kernel_rfl) (by omega) (by omega) (fun hp hq => by
      have m1 := mul_8 hp.1 hq.1
      have m3 := mul_8 (sm_d p hp) (sm_d q hq)
      exact ⟨mulC_gives _ _ _ _ hp.1 (sm_d p hp) hq.1 (sm_d q hq), okN_den, by omega, by omega, rat_mul p q⟩) W ht
  by_cases hs : smQ p ∧ smQ q
  · refine wl_call1 rfl rfl rfl rfl rfl rfl (by kernel_rfl) (fun W h => (hquick W (ht.hp h)).cast (if_pos hs)) ?_
    iterate 5 refine wl_pure Tryz.hT rfl rfl rfl ?_
    refine wl_nil ?_
    refine zE ?_
    refine zA ?_
    refine zB ?_
    refine wl_pure Tryz.hT rfl rfl rfl ?_
    refine wl_nil ?_
    refine zE ?_
    refine zR rfl ?_
    refine zA ?_
    refine zB ?_
    iterate 3 refine wl_pure Tryz.hT rfl rfl rfl ?_
    refine wl_nil ?_
    refine zE ?_
    refine zO ?_
    refine zP ?_
    exact ne_ret2 Tryz.hT rfl (.tmp rfl) (.tmp rfl) () rfl trivial fun W _ => NewBx.nil _ _
  · refine wl_call1 rfl rfl rfl rfl rfl rfl (by kernel_rfl) (fun W h => (hquick W (ht.hp h)).cast (if_neg hs)) ?_
    iterate 5 refine wl_pure Tryz.hT rfl rfl rfl ?_
    refine wl_nil ?_
    refine zE ?_
    refine zA ?_
    refine zB ?_
    refine wl_pure Tryz.hT rfl rfl rfl ?_
    refine wl_nil ?_
    refine zE ?_
    refine zS rfl ?_
    refine zI ?_
    refine zE ?_
    refine zA ?_
    refine zB ?_
    iterate 2 refine wl_pure Tryz.hT rfl rfl rfl ?_
    refine wl_call1 rfl rfl rfl rfl rfl rfl (by kernel_rfl) (fun W hp => rboth_gives p q (numS (p * q)) 0 201 [] h.okp h.okq W (hv.hp hp) (ht.hp hp) (by kernel_rfl) (fun W' hb => mul2_gives p q h.okp h.okq h.n h.d W' ((ht.hp hp).below hb))) ?_
    iterate 4 refine wl_pure Tryz.hT rfl rfl rfl ?_
    refine wl_nil ?_
    refine zE ?_
    refine zO ?_
    exact ne_ret2 Tryz.hT rfl (.tmp rfl) (.tmp rfl) () rfl trivial fun W _ => NewBx.nil _ _
theorem numS_0 {q : Rat} : numS q = [48] ↔ q.num = 0 := by
  constructor
  · intro h
    unfold numS parS at h
    split at h
    · exact itoa_0.1 h
    · have : (47 : UInt8) ∈ ([48] : List UInt8) := by rw [← h]; exact List.mem_append_right _ (List.mem_cons_self ..)
      exact absurd this (by decide)
  · intro h
    have hd : q.den = 1 := by
      have := q.reduced
      rw [h] at this
      simpa [Nat.Coprime] using this
    rw [numS, parS, if_pos hd, h, itoa_zero]
set_option maxHeartbeats 8000000 in
theorem rdiv_gives (p q : Rat) (h : Sz2 p q) (W0 : World) (hv : MaxP W0) (ht : TabP W0) :
    CallsR Tryz.prog 74 #[str (numS p), str (numS q)] W0 (fun _ : Unit => .tuple #[str (divR p q).1, .int .i64 (divR p q).2]) (fun _ => True) (fun _ => []) := by
  have hlp := numS_len h.okp
  have hlq := numS_len h.okq
  have hboth : ∀ W, MaxP W → TabP W → CallsR Tryz.prog 100 #[str (numS p), str (numS q), .func (.func 156) #[] #[]] W (fun _ : Unit => .tuple #[str (divR p q).1, .int .i64 (divR p q).2]) (fun _ => True) (fun _ => []) :=
    fun W hv ht => rboth_gives p q _ _ 156 [] h.okp h.okq W hv ht (by kernel_rfl) (fun W' hb => div2_gives p q h.okp h.okq h.c1 h.c2 W' (ht.below hb))
  refine calls_enter (args := [str (numS p), str (numS q)]) Tryz.func74 rfl rfl rfl ?_
  refine zA ?_
  refine zB ?_
  iterate 2 refine wl_pure Tryz.hT rfl rfl rfl ?_
  refine wl_nil ?_
  refine zE ?_
  iterate 2 refine zA ?_
  refine zB ?_
  iterate 2 refine wl_pure Tryz.hT rfl rfl rfl ?_
  by_cases h0 : q.num = 0
  · refine wl_upd 9 (.bool false) rfl (congrArg Value.bool (by show (!_) = false; rw [strEqB, decide_eq_true (numS_0.2 h0)]; rfl)) ?_
    refine wl_nil ?_
    refine zE ?_
    refine zS rfl ?_
    refine zI ?_
    refine zE ?_
    refine zA ?_
    refine zB ?_
    iterate 2 refine wl_pure Tryz.hT rfl rfl rfl ?_
    refine wl_call1 rfl rfl rfl rfl rfl rfl (by kernel_rfl) (fun W hp => hboth W (hv.hp hp) (ht.hp hp)) ?_
    iterate 4 refine wl_pure Tryz.hT rfl rfl rfl ?_
    refine wl_nil ?_
    refine zE ?_
    refine zO ?_
    exact ne_ret2 Tryz.hT rfl (.tmp rfl) (.tmp rfl) () rfl trivial fun W _ => NewBx.nil _ _
  · have hval : divR p q = (numS (p / q), 0) := if_neg h0
    refine wl_upd 9 (.bool true) rfl (congrArg Value.bool (by show (!_) = true; rw [strEqB, decide_eq_false fun e => h0 (numS_0.1 e)]; rfl)) ?_
    refine wl_nil ?_
    refine zE ?_
    refine zR rfl ?_
    refine zA ?_
    refine zB ?_
    iterate 2 refine wl_pure Tryz.hT rfl rfl rfl ?_
    have hquick : ∀ W, TabP W → CallsR Tryz.prog 98 #[str (numS p), str (numS q), .func (.func 155) #[] #[]] W (fun _ : Unit => if smQ p ∧ smQ q then .tuple #[str (numS (p / q)), .bool true] else .tuple #[str [], .bool false]) (fun _ => True) (fun _ => []) :=
      fun W ht => quick_gives p q (p / q) (p.num * (q.den : Nat)) ((p.den : Nat) * q.num) _ (by kernel_rfl) (by omega) (by omega) (fun hp hq => by
        have m1 := mul_8 hp.1 (sm_d q hq)
        have m3 := mul_8 (sm_d p hp) hq.1
        exact ⟨divC_gives _ _ _ _ hp.1 (sm_d p hp) hq.1 (sm_d q hq), Int.mul_ne_zero (by have := p.den_nz; omega) h0, by omega, by omega, rat_div p q h0⟩) W ht
    by_cases hs : smQ p ∧ smQ q
    · refine wl_call1 rfl rfl rfl rfl rfl rfl (by kernel_rfl) (fun W h => (hquick W (ht.hp h)).cast (if_pos hs)) ?_
      iterate 5 refine wl_pure Tryz.hT rfl rfl rfl ?_
      refine wl_nil ?_
      refine zE ?_
      refine zA ?_
      refine zB ?_
      refine wl_pure Tryz.hT rfl rfl rfl ?_
      refine wl_nil ?_
      refine zE ?_
      refine zR rfl ?_
      refine zA ?_
      refine zB ?_
      iterate 3 refine wl_pure Tryz.hT rfl rfl rfl ?_
      refine wl_nil ?_
      refine zE ?_
      refine zO ?_
      refine zP ?_
      exact ne_ret2 Tryz.hT rfl (.tmp rfl) (.tmp rfl) () (by rw [hval]) trivial fun W _ => NewBx.nil _ _
    · refine wl_call1 rfl rfl rfl rfl rfl rfl (by kernel_rfl) (fun W h => (hquick W (ht.hp h)).cast (if_neg hs)) ?_
      iterate 5 refine wl_pure Tryz.hT rfl rfl rfl ?_
      refine wl_nil ?_
      refine zE ?_
      refine zA ?_
      refine zB ?_
      refine wl_pure Tryz.hT rfl rfl rfl ?_
      refine wl_nil ?_
      refine zE ?_
      refine zS rfl ?_
      refine zI ?_
      refine zE ?_
      refine zA ?_
      refine zB ?_
      iterate 2 refine wl_pure Tryz.hT rfl rfl rfl ?_
      refine wl_call1 rfl rfl rfl rfl rfl rfl (by kernel_rfl) (fun W hp => hboth W (hv.hp hp) (ht.hp hp)) ?_
      iterate 4 refine wl_pure Tryz.hT rfl rfl rfl ?_
      refine wl_nil ?_
      refine zE ?_
      refine zO ?_
      exact ne_ret2 Tryz.hT rfl (.tmp rfl) (.tmp rfl) () rfl trivial fun W _ => NewBx.nil _ _
end Go.Proofs.YtlagebbefnnnnaaGreatDoor
namespace Go.Proofs.YtlagebbefnnnnaaGreatDoor
open Go Go.RowKit Go.Am Go.Lib
set_option maxRecDepth 10000
-- BOXES 5
set_option maxHeartbeats 8000000 in
theorem rcompare_gives (p q : Rat) (h : Sz2 p q) (W0 : World) (hv : MaxP W0) (ht : TabP W0) :
    CallsR Tryz.prog 162 #[str (numS p), str (numS q)] W0 (fun _ : Unit => .tuple #[.int .i64 (cmpZ (p.num * (q.den : Nat)) (q.num * (p.den : Nat))), .int .i64 0]) (fun _ => True) (fun _ => []) := by
  have hlp := numS_len h.okp
  have hlq := numS_len h.okq
  refine calls_enter (args := [str (numS p), str (numS q)]) Tryz.func162 rfl rfl rfl ?_
  refine zA ?_
  refine zB ?_
  iterate 2 refine wl_pure Tryz.hT rfl rfl rfl ?_
  refine wl_nil ?_
  refine ne_then ?_
  refine wc_seq ?_
  refine wc_cutS (X := Unit) (fun _ => [(0, str (numS p)), (1, str (numS q)), (4, .int .i64 0), (5, .int .i64 0)]) (fun _ => []) (fun _ => True) ?_ ?_
  · refine zA ?_
    refine zB ?_
    refine wl_pure Tryz.hT rfl rfl rfl ?_
    by_cases hp : smQ p
    · refine wl_call1 rfl rfl rfl rfl rfl rfl (by kernel_rfl) (fun W _ => (nativeOf_gives (numS p) (by omega) W).cast ((natOf_num p).trans (if_pos hp))) ?_
      iterate 3 refine wl_pure Tryz.hT rfl rfl rfl ?_
      (refine wl_allocZ Tryz.hZ rfl rfl rfl rfl ?_; intro)
      refine wl_storeBx 0 Tryz.hT rfl rfl rfl rfl rfl rfl rfl rfl rfl rfl rfl ?_
      refine wl_pure Tryz.hT rfl rfl rfl ?_
      refine wl_nil ?_
      rename_i b6
      refine zE ?_
      refine zA ?_
      refine zB ?_
      refine wl_pure Tryz.hT rfl rfl rfl ?_
      refine wl_nil ?_
      refine zE ?_
      refine zR rfl ?_
      refine zA ?_
      refine zB ?_
      refine wl_pure Tryz.hT rfl rfl rfl ?_
      by_cases hq : smQ q
      · refine wl_call1 rfl rfl rfl rfl rfl rfl (by kernel_rfl) (fun W _ => (nativeOf_gives (numS q) (by omega) W).cast ((natOf_num q).trans (if_pos hq))) ?_
        iterate 3 refine wl_pure Tryz.hT rfl rfl rfl ?_
        (refine wl_allocZ Tryz.hZ rfl rfl rfl rfl ?_; intro)
        refine wl_storeBx 1 Tryz.hT rfl rfl rfl rfl rfl rfl rfl rfl rfl rfl rfl ?_
        refine wl_pure Tryz.hT rfl rfl rfl ?_
        refine wl_nil ?_
        rename_i b8
        refine zE ?_
        refine zA ?_
        refine zB ?_
        refine wl_pure Tryz.hT rfl rfl rfl ?_
        refine wl_nil ?_
        refine zE ?_
        refine zR rfl ?_
        refine zA ?_
        refine zB ?_
        refine wl_pure Tryz.hT rfl rfl rfl ?_
        refine wl_loadBx 0 Tryz.hT rfl rfl rfl rfl rfl rfl rfl rfl ?_
        refine wl_pure Tryz.hT rfl rfl rfl ?_
        refine wl_loadBx 1 Tryz.hT rfl rfl rfl rfl rfl rfl rfl rfl ?_
        refine wl_pure Tryz.hT rfl rfl rfl ?_
        refine wl_upd 31 (.int .i64 (p.num * (q.den : Nat))) rfl (congrArg (Value.int .i64) (w64_mul8 hp.1 (sm_d q hq))) ?_
        refine wl_pure Tryz.hT rfl rfl rfl ?_
        refine wl_loadBx 1 Tryz.hT rfl rfl rfl rfl rfl rfl rfl rfl ?_
        refine wl_pure Tryz.hT rfl rfl rfl ?_
        refine wl_loadBx 0 Tryz.hT rfl rfl rfl rfl rfl rfl rfl rfl ?_
        refine wl_pure Tryz.hT rfl rfl rfl ?_
        refine wl_upd 36 (.int .i64 (q.num * (p.den : Nat))) rfl (congrArg (Value.int .i64) (w64_mul8 hq.1 (sm_d p hp))) ?_
        refine wl_call1 rfl rfl rfl rfl rfl rfl (by kernel_rfl) (fun W _ => icmp_gives _ _ W) ?_
        iterate 2 refine wl_pure Tryz.hT rfl rfl rfl ?_
        refine wl_nil ?_
        refine zE ?_
        refine zO ?_
        refine zP ?_
        exact ne_ret2 Tryz.hT rfl (.tmp rfl) (.tmp rfl) () rfl trivial fun W _ => NewBx.nil _ _
      · refine wl_call1 rfl rfl rfl rfl rfl rfl (by kernel_rfl) (fun W _ => (nativeOf_gives (numS q) (by omega) W).cast ((natOf_num q).trans (if_neg hq))) ?_
        iterate 3 refine wl_pure Tryz.hT rfl rfl rfl ?_
        (refine wl_allocZ Tryz.hZ rfl rfl rfl rfl ?_; intro)
        refine wl_storeBx 1 Tryz.hT rfl rfl rfl rfl rfl rfl rfl rfl rfl rfl rfl ?_
        refine wl_pure Tryz.hT rfl rfl rfl ?_
        refine wl_nil ?_
        refine zE ?_
        refine zA ?_
        refine zB ?_
        refine wl_pure Tryz.hT rfl rfl rfl ?_
        refine wl_nil ?_
        refine zE ?_
        refine zS rfl ?_
        refine zI ?_
        exact ne_cut () trivial ⟨rfl, rfl, rfl, rfl, trivial⟩ _ rfl
    · refine wl_call1 rfl rfl rfl rfl rfl rfl (by kernel_rfl) (fun W _ => (nativeOf_gives (numS p) (by omega) W).cast ((natOf_num p).trans (if_neg hp))) ?_
      iterate 3 refine wl_pure Tryz.hT rfl rfl rfl ?_
      (refine wl_allocZ Tryz.hZ rfl rfl rfl rfl ?_; intro)
      refine wl_storeBx 0 Tryz.hT rfl rfl rfl rfl rfl rfl rfl rfl rfl rfl rfl ?_
      refine wl_pure Tryz.hT rfl rfl rfl ?_
      refine wl_nil ?_
      refine zE ?_
      refine zA ?_
      refine zB ?_
      refine wl_pure Tryz.hT rfl rfl rfl ?_
      refine wl_nil ?_
      refine zE ?_
      refine zS rfl ?_
      refine zI ?_
      exact ne_cut () trivial ⟨rfl, rfl, rfl, rfl, trivial⟩ _ rfl
  · intro _ _
    refine zA ?_
    refine zB ?_
    refine wl_pure Tryz.hT rfl rfl rfl ?_
    refine wl_call1 rfl rfl rfl rfl rfl rfl (by kernel_rfl) (fun W hp => (rread_gives (numS p) (by omega) W (hv.hp hp) (ht.hp hp)).cast (rd_num h.okp)) ?_
    iterate 3 refine wl_pure Tryz.hT rfl rfl rfl ?_
    (refine wl_allocZ Tryz.hZ rfl rfl rfl rfl ?_; intro)
    refine wl_storeBx 0 Tryz.hT rfl rfl rfl rfl rfl rfl rfl rfl rfl rfl rfl ?_
    refine wl_pure Tryz.hT rfl rfl rfl ?_
    refine wl_nil ?_
    rename_i b10
    refine zE ?_
    iterate 2 refine zA ?_
    refine zB ?_
    iterate 2 refine wl_pure Tryz.hT rfl rfl rfl ?_
    refine wl_nil ?_
    refine zE ?_
    refine zS rfl ?_
    refine zI ?_
    refine zE ?_
    refine zA ?_
    refine zB ?_
    refine wl_pure Tryz.hT rfl rfl rfl ?_
    refine wl_call1 rfl rfl rfl rfl rfl rfl (by kernel_rfl) (fun W hp => (rread_gives (numS q) (by omega) W (hv.hp hp) (ht.hp hp)).cast (rd_num h.okq)) ?_
    iterate 3 refine wl_pure Tryz.hT rfl rfl rfl ?_
    (refine wl_allocZ Tryz.hZ rfl rfl rfl rfl ?_; intro)
    refine wl_storeBx 1 Tryz.hT rfl rfl rfl rfl rfl rfl rfl rfl rfl rfl rfl ?_
    refine wl_pure Tryz.hT rfl rfl rfl ?_
    refine wl_nil ?_
    rename_i b12
    refine zE ?_
    iterate 2 refine zA ?_
    refine zB ?_
    iterate 2 refine wl_pure Tryz.hT rfl rfl rfl ?_
    refine wl_nil ?_
    refine zE ?_
    refine zS rfl ?_
    refine zI ?_
    refine zE ?_
    refine zA ?_
    refine zB ?_
    refine wl_loadBx 0 Tryz.hT rfl rfl rfl rfl rfl rfl rfl rfl ?_
    refine wl_loadBx 1 Tryz.hT rfl rfl rfl rfl rfl rfl rfl rfl ?_
    refine wl_call1 rfl rfl rfl rfl rfl rfl (by kernel_rfl) (fun W hp => crossed_gives p q h.okp h.okq h.c1 h.c2 W (ht.hp hp)) ?_
    iterate 7 refine wl_pure Tryz.hT rfl rfl rfl ?_
    refine wl_nil ?_
    refine zE ?_
    iterate 2 refine zA ?_
    refine zB ?_
    iterate 2 refine wl_pure Tryz.hT rfl rfl rfl ?_
    refine wl_nil ?_
    refine zE ?_
    refine zS rfl ?_
    refine zI ?_
    refine zE ?_
    refine zA ?_
    refine zB ?_
    iterate 2 refine wl_pure Tryz.hT rfl rfl rfl ?_
    refine wl_call1 rfl rfl rfl rfl rfl rfl (by kernel_rfl) (fun W _ => icompare_gives _ _ h.c1 h.c2 W) ?_
    iterate 4 refine wl_pure Tryz.hT rfl rfl rfl ?_
    refine wl_nil ?_
    refine zE ?_
    refine zO ?_
    exact ne_ret2 Tryz.hT rfl (.tmp rfl) (.tmp rfl) () rfl trivial fun W _ => NewBx.nil _ _
end Go.Proofs.YtlagebbefnnnnaaGreatDoor
namespace Go.Proofs.YtlagebbefnnnnaaGreatDoor
open Go Go.RowKit Go.Am Go.Lib
set_option maxRecDepth 10000
-- BOXES 4
theorem nrm_one (a : Int) : numS (nrm a 1) = itoa a := by
  have e : nrm a 1 = mkRat a 1 := rfl
  rw [e, numS_one (by decide) (by rw [Nat.gcd_one_right])]
  rw [Nat.gcd_one_right]
  show itoa (a / 1) = _
  rw [Int.ediv_one]
def ofR (a b : Int) : List UInt8 × Int := if b = 0 then ([], 12) else (numS (nrm a b), 0)
theorem okN_64 {z : Int} (h0 : -9223372036854775808 ≤ z) (h1 : z ≤ 9223372036854775807) : okN z := okN_18 (by
  have : (10 : Nat) ^ 20 = 100000000000000000000 := by decide
  omega)
set_option maxHeartbeats 8000000 in
theorem rof_gives (a b : Int) (ha : -9223372036854775808 ≤ a ∧ a ≤ 9223372036854775807) (hb : -9223372036854775808 ≤ b ∧ b ≤ 9223372036854775807) (W : World) (ht : TabP W) :
    CallsR Tryz.prog 27 #[.int .i64 a, .int .i64 b] W (fun _ : Unit => .tuple #[str (ofR a b).1, .int .i64 (ofR a b).2]) (fun _ => True) (fun _ => []) := by
  refine calls_enter (args := [.int .i64 a, .int .i64 b]) Tryz.func27 rfl rfl rfl ?_
  refine zA ?_
  refine zB ?_
  iterate 2 refine wl_pure Tryz.hT rfl rfl rfl ?_
  refine wl_nil ?_
  refine zE ?_
  iterate 2 refine zA ?_
  refine zB ?_
  refine wl_pure Tryz.hT rfl rfl rfl ?_
  refine wl_nil ?_
  refine zE ?_
  refine zH ?_
  refine zA ?_
  refine zB ?_
  refine wl_pure Tryz.hT rfl rfl rfl ?_
  by_cases h0 : b = 0
  · refine wl_upd 8 (.bool true) rfl (congrArg Value.bool (by rw [h0]; rfl)) ?_
    refine wl_pure Tryz.hT rfl rfl rfl ?_
    refine wl_nil ?_
    refine zE ?_
    refine zR rfl ?_
    refine zA ?_
    refine zB ?_
    iterate 2 refine wl_pure Tryz.hT rfl rfl rfl ?_
    refine wl_nil ?_
    refine zE ?_
    refine zO ?_
    refine zQ ?_
    refine zP ?_
    exact ne_ret2 Tryz.hT rfl (.tmp rfl) (.tmp rfl) () (by rw [ofR, if_pos h0]) trivial fun W _ => NewBx.nil _ _
  · have hval : ofR a b = (numS (nrm a b), 0) := if_neg h0
    refine wl_upd 8 (.bool false) rfl (congrArg Value.bool (by rw [beq_eq_false_iff_ne]; exact h0)) ?_
    refine wl_pure Tryz.hT rfl rfl rfl ?_
    refine wl_nil ?_
    refine zE ?_
    refine zS rfl ?_
    refine zA ?_
    refine zB ?_
    refine wl_pure Tryz.hT rfl rfl rfl ?_
    by_cases h1 : b = 1
    · refine wl_upd 10 (.bool true) rfl (congrArg Value.bool (by rw [h1]; rfl)) ?_
      refine wl_pure Tryz.hT rfl rfl rfl ?_
      refine wl_nil ?_
      refine zE ?_
      refine zR rfl ?_
      refine zA ?_
      refine zB ?_
      refine wl_pure Tryz.hT rfl rfl rfl ?_
      refine wl_call1 rfl rfl rfl rfl rfl rfl (by kernel_rfl) (fun W hp => itoa_gives a ha.1 ha.2 W (ht.hp hp)) ?_
      iterate 2 refine wl_pure Tryz.hT rfl rfl rfl ?_
      refine wl_nil ?_
      refine zE ?_
      refine zO ?_
      refine zQ ?_
      refine zP ?_
      exact ne_ret2 Tryz.hT rfl (.tmp rfl) (.tmp rfl) () (by rw [hval, h1, nrm_one]) trivial fun W _ => NewBx.nil _ _
    · refine wl_upd 10 (.bool false) rfl (congrArg Value.bool (by rw [beq_eq_false_iff_ne]; exact h1)) ?_
      refine wl_pure Tryz.hT rfl rfl rfl ?_
      refine wl_nil ?_
      refine zE ?_
      refine zS rfl ?_
      refine zI ?_
      refine zN ?_
      refine zE ?_
      refine zA ?_
      refine zB ?_
      refine wl_pure Tryz.hT rfl rfl rfl ?_
      refine wl_call1 rfl rfl rfl rfl rfl rfl (by kernel_rfl) (fun W hp => itoa_gives a ha.1 ha.2 W (ht.hp hp)) ?_
      refine wl_pure Tryz.hT rfl rfl rfl ?_
      refine wl_call1 rfl rfl rfl rfl rfl rfl (by kernel_rfl) (fun W hp => itoa_gives b hb.1 hb.2 W (ht.hp hp)) ?_
      refine wl_call1 rfl rfl rfl rfl rfl rfl (by kernel_rfl) (fun W hp => ratNumber_gives a b h0 (okN_64 ha.1 ha.2) (okN_64 hb.1 hb.2) W (ht.hp hp)) ?_
      iterate 4 refine wl_pure Tryz.hT rfl rfl rfl ?_
      refine wl_nil ?_
      refine zE ?_
      refine zO ?_
      exact ne_ret2 Tryz.hT rfl (.tmp rfl) (.tmp rfl) () (by rw [hval]) trivial fun W _ => NewBx.nil _ _
set_option maxHeartbeats 4000000 in
theorem rcheck_gives (a : List UInt8) (hl : a.length ≤ 4000000000) (W : World) (hv : MaxP W) (ht : TabP W) :
    CallsR Tryz.prog 195 #[str a] W (fun _ : Unit => .int .i64 (rdR a).2) (fun _ => True) (fun _ => []) := by
  refine calls_enter (args := [str a]) Tryz.func195 rfl rfl rfl ?_
  refine zA ?_
  refine zB ?_
  refine wl_pure Tryz.hT rfl rfl rfl ?_
  refine wl_nil ?_
  refine zE ?_
  refine zA ?_
  refine zB ?_
  refine wl_pure Tryz.hT rfl rfl rfl ?_
  refine wl_call1 rfl rfl rfl rfl rfl rfl (by kernel_rfl) (fun W h => rread_gives a hl W (hv.hp h) (ht.hp h)) ?_
  iterate 3 refine wl_pure Tryz.hT rfl rfl rfl ?_
  (refine wl_allocZ Tryz.hZ rfl rfl rfl rfl ?_; intro)
  refine wl_storeBx 0 Tryz.hT rfl rfl rfl rfl rfl rfl rfl rfl rfl rfl rfl ?_
  refine wl_pure Tryz.hT rfl rfl rfl ?_
  refine wl_nil ?_
  refine zE ?_
  refine zA ?_
  refine zB ?_
  iterate 2 refine wl_pure Tryz.hT rfl rfl rfl ?_
  refine wl_nil ?_
  refine zE ?_
  refine zO ?_
  exact ne_ret1 Tryz.hT rfl (.tmp rfl) () rfl trivial fun W _ => NewBx.nil _ _
theorem rd_okQ {q : Rat} (h : okQ q) : rdR (numS q) = ((itoa q.num, decDigits q.den), 0) := by
  have hd : q.den < ten300 := by have := h.2; unfold okN at this; rwa [Int.natAbs_natCast] at this
  have hf : frm (numS q) = some (q.num, q.den) := frm_parS q.num q.den_pos
  unfold rdR; rw [hf]; exact (if_pos ⟨h.1, hd⟩).trans (if_pos q.reduced)
end Go.Proofs.YtlagebbefnnnnaaGreatDoor
namespace Go.Proofs.YtlagebbefnnnnaaGreatDoor
open Go Go.RowKit Go.Am Go.Lib
set_option maxRecDepth 10000
theorem wholeQ (z : Int) : nrm z 1 = (z : Rat) := by
  show mkRat z 1 = _
  exact Rat.mkRat_one z
theorem ofR_one (z : Int) : ofR z 1 = (numS (z : Rat), 0) := by
  rw [ofR, if_neg (by decide), wholeQ]
theorem cmpQ_lt (p q : Rat) : p.num * (q.den : Nat) < q.num * (p.den : Nat) ↔ p < q := (Rat.lt_iff p q).symm
def cmpQ (p q : Rat) : Int := if p < q then -1 else if p = q then 0 else 1
theorem cmpZ_Q (p q : Rat) : cmpZ (p.num * (q.den : Nat)) (q.num * (p.den : Nat)) = cmpQ p q := by
  unfold cmpZ cmpQ
  have h1 := cmpQ_lt p q
  have h2 : p.num * (q.den : Nat) = q.num * (p.den : Nat) ↔ p = q := by
    constructor
    · intro h
      have a := Rat.num_divInt_den p
      have b := Rat.num_divInt_den q
      rw [← a, ← b]
      exact (Rat.divInt_eq_divInt_iff (by have := p.den_nz; omega) (by have := q.den_nz; omega)).2 h
    · rintro rfl; rfl
  by_cases h : p < q
  · rw [if_pos h, if_pos (h1.2 h)]
  · rw [if_neg h, if_neg (fun e => h (h1.1 e))]
    by_cases e : p = q
    · rw [if_pos e, if_pos (h2.2 e)]
    · rw [if_neg e, if_neg (fun h => e (h2.1 h))]
theorem szQ_int {z : Int} {k : Nat} (h : z.natAbs < 10 ^ k) (hk : 1 < 10 ^ k) : szQ (z : Rat) k := ⟨by rw [Rat.num_intCast]; exact h, by rw [Rat.den_intCast]; exact hk⟩
theorem cmpQ_le (p q : Rat) : (decide (cmpQ p q ≤ 0)) = decide (p ≤ q) := by
  unfold cmpQ
  refine decide_eq_decide.2 ?_
  by_cases h : p < q
  · rw [if_pos h]; exact ⟨fun _ => Rat.le_of_lt h, fun _ => by decide⟩
  · rw [if_neg h]
    by_cases e : p = q
    · rw [if_pos e]; exact ⟨fun _ => by rw [e]; exact Rat.le_refl, fun _ => by decide⟩
    · rw [if_neg e]
      exact ⟨fun h => absurd h (by decide), fun h2 => absurd (Rat.lt_of_le_of_ne h2 e) h⟩
theorem numS_zero : numS 0 = [48] := numS_0.2 rfl
theorem cmpQ_lt0 (p q : Rat) : (decide (cmpQ p q < 0)) = decide (p < q) := by
  unfold cmpQ
  refine decide_eq_decide.2 ?_
  by_cases h : p < q
  · rw [if_pos h]; exact ⟨fun _ => h, fun _ => by decide⟩
  · rw [if_neg h]
    by_cases e : p = q
    · rw [if_pos e]; exact ⟨fun h2 => absurd h2 (by decide), fun h2 => absurd h2 h⟩
    · rw [if_neg e]
      exact ⟨fun h => absurd h (by decide), fun h2 => absurd h2 h⟩
theorem numS_inj {p q : Rat} : numS p = numS q ↔ p = q := by
  refine ⟨fun h => ?_, fun h => by rw [h]⟩
  have h1 := frm_parS p.num p.den_pos
  have h2 := frm_parS q.num q.den_pos
  have h : parS p.num p.den = parS q.num q.den := h
  rw [h, h2] at h1
  injection h1 with h1
  injection h1 with a b
  exact Rat.ext a.symm b.symm
theorem numS_eq0 (q : Rat) : decide (numS q = [48]) = decide (q = 0) := decide_eq_decide.2 (by rw [← numS_zero, numS_inj])
theorem num_ne {q : Rat} (h : q ≠ 0) : q.num ≠ 0 := by rwa [ne_eq, Rat.num_eq_zero]
end Go.Proofs.YtlagebbefnnnnaaGreatDoor
namespace Go.Proofs.YtlagebbefnnnnaaGreatDoor
open Go Go.RowKit Go.Am Go.Lib
set_option maxRecDepth 10000
-- BOXES 4
set_option maxHeartbeats 4000000 in
theorem fwhole_gives (z : Int) (hz : -9223372036854775808 ≤ z ∧ z ≤ 9223372036854775807) (W : World) (ht : TabP W) :
    CallsR Tryz.prog 58 #[.int .i64 z] W (fun _ : Unit => str (numS (z : Rat))) (fun _ => True) (fun _ => []) := by
  refine calls_enter (args := [.int .i64 z]) Tryz.func58 rfl rfl rfl ?_
  refine zA ?_
  refine zB ?_
  refine wl_pure Tryz.hT rfl rfl rfl ?_
  refine wl_nil ?_
  refine zE ?_
  refine zA ?_
  refine zB ?_
  refine wl_pure Tryz.hT rfl rfl rfl ?_
  refine wl_call1 rfl rfl rfl rfl rfl rfl (by kernel_rfl) (fun W hp => (rof_gives z 1 hz (by decide) W (ht.hp hp)).cast (by rw [ofR_one])) ?_
  iterate 5 refine wl_pure Tryz.hT rfl rfl rfl ?_
  refine wl_nil ?_
  refine zE ?_
  refine zA ?_
  refine zB ?_
  iterate 2 refine wl_pure Tryz.hT rfl rfl rfl ?_
  refine wl_nil ?_
  refine zE ?_
  refine zO ?_
  exact ne_ret1 Tryz.hT rfl (.tmp rfl) () rfl trivial fun W _ => NewBx.nil _ _
theorem lnum_gives (a b : Int) (hb0 : b ≠ 0) (ha : -9223372036854775808 ≤ a ∧ a ≤ 9223372036854775807) (hb : -9223372036854775808 ≤ b ∧ b ≤ 9223372036854775807) (W : World) (ht : TabP W) :
    CallsR Tryz.prog 17 #[.int .i64 a, .int .i64 b] W (fun _ : Unit => str (numS (nrm a b))) (fun _ => True) (fun _ => []) := by
  refine calls_enter (args := [.int .i64 a, .int .i64 b]) Tryz.func17 rfl rfl rfl ?_
  refine zA ?_
  refine zB ?_
  refine wl_pure Tryz.hT rfl rfl rfl ?_
  refine wl_nil ?_
  refine zE ?_
  refine zA ?_
  refine zB ?_
  iterate 2 refine wl_pure Tryz.hT rfl rfl rfl ?_
  refine wl_call1 rfl rfl rfl rfl rfl rfl (by kernel_rfl) (fun W hp => (rof_gives a b ha hb W (ht.hp hp)).cast (by rw [ofR, if_neg hb0])) ?_
  iterate 5 refine wl_pure Tryz.hT rfl rfl rfl ?_
  refine wl_nil ?_
  refine zE ?_
  refine zA ?_
  refine zB ?_
  iterate 2 refine wl_pure Tryz.hT rfl rfl rfl ?_
  refine wl_nil ?_
  refine zE ?_
  refine zO ?_
  exact ne_ret1 Tryz.hT rfl (.tmp rfl) () rfl trivial fun W _ => NewBx.nil _ _
theorem fadd_gives (p q : Rat) (h : Sz2 p q) (W : World) (hv : MaxP W) (ht : TabP W) :
    CallsR Tryz.prog 164 #[str (numS p), str (numS q)] W (fun _ : Unit => str (numS (p + q))) (fun _ => True) (fun _ => []) := by
  refine calls_enter (args := [str (numS p), str (numS q)]) Tryz.func164 rfl rfl rfl ?_
  refine zA ?_
  refine zB ?_
  refine wl_pure Tryz.hT rfl rfl rfl ?_
  refine wl_nil ?_
  refine zE ?_
  refine zA ?_
  refine zB ?_
  iterate 2 refine wl_pure Tryz.hT rfl rfl rfl ?_
  refine wl_call1 rfl rfl rfl rfl rfl rfl (by kernel_rfl) (fun W hp => radd_gives p q h W (hv.hp hp) (ht.hp hp)) ?_
  iterate 5 refine wl_pure Tryz.hT rfl rfl rfl ?_
  refine wl_nil ?_
  refine zE ?_
  refine zA ?_
  refine zB ?_
  iterate 2 refine wl_pure Tryz.hT rfl rfl rfl ?_
  refine wl_nil ?_
  refine zE ?_
  refine zO ?_
  exact ne_ret1 Tryz.hT rfl (.tmp rfl) () rfl trivial fun W _ => NewBx.nil _ _
theorem fsub_gives (p q : Rat) (h : Sz2 p q) (W : World) (hv : MaxP W) (ht : TabP W) :
    CallsR Tryz.prog 59 #[str (numS p), str (numS q)] W (fun _ : Unit => str (numS (p - q))) (fun _ => True) (fun _ => []) := by
  refine calls_enter (args := [str (numS p), str (numS q)]) Tryz.func59 rfl rfl rfl ?_
  refine zA ?_
  refine zB ?_
  refine wl_pure Tryz.hT rfl rfl rfl ?_
  refine wl_nil ?_
  refine zE ?_
  refine zA ?_
  refine zB ?_
  iterate 2 refine wl_pure Tryz.hT rfl rfl rfl ?_
  refine wl_call1 rfl rfl rfl rfl rfl rfl (by kernel_rfl) (fun W hp => rsub_gives p q h W (hv.hp hp) (ht.hp hp)) ?_
  iterate 5 refine wl_pure Tryz.hT rfl rfl rfl ?_
  refine wl_nil ?_
  refine zE ?_
  refine zA ?_
  refine zB ?_
  iterate 2 refine wl_pure Tryz.hT rfl rfl rfl ?_
  refine wl_nil ?_
  refine zE ?_
  refine zO ?_
  exact ne_ret1 Tryz.hT rfl (.tmp rfl) () rfl trivial fun W _ => NewBx.nil _ _
theorem fmul_gives (p q : Rat) (h : Sz2 p q) (W : World) (hv : MaxP W) (ht : TabP W) :
    CallsR Tryz.prog 57 #[str (numS p), str (numS q)] W (fun _ : Unit => str (numS (p * q))) (fun _ => True) (fun _ => []) := by
  refine calls_enter (args := [str (numS p), str (numS q)]) Tryz.func57 rfl rfl rfl ?_
  refine zA ?_
  refine zB ?_
  refine wl_pure Tryz.hT rfl rfl rfl ?_
  refine wl_nil ?_
  refine zE ?_
  refine zA ?_
  refine zB ?_
  iterate 2 refine wl_pure Tryz.hT rfl rfl rfl ?_
  refine wl_call1 rfl rfl rfl rfl rfl rfl (by kernel_rfl) (fun W hp => rmul_gives p q h W (hv.hp hp) (ht.hp hp)) ?_
  iterate 5 refine wl_pure Tryz.hT rfl rfl rfl ?_
  refine wl_nil ?_
  refine zE ?_
  refine zA ?_
  refine zB ?_
  iterate 2 refine wl_pure Tryz.hT rfl rfl rfl ?_
  refine wl_nil ?_
  refine zE ?_
  refine zO ?_
  exact ne_ret1 Tryz.hT rfl (.tmp rfl) () rfl trivial fun W _ => NewBx.nil _ _
theorem fdiv_gives (p q : Rat) (h : Sz2 p q) (h0 : q.num ≠ 0) (W : World) (hv : MaxP W) (ht : TabP W) :
    CallsR Tryz.prog 124 #[str (numS p), str (numS q)] W (fun _ : Unit => str (numS (p / q))) (fun _ => True) (fun _ => []) := by
  refine calls_enter (args := [str (numS p), str (numS q)]) Tryz.func124 rfl rfl rfl ?_
  refine zA ?_
  refine zB ?_
  refine wl_pure Tryz.hT rfl rfl rfl ?_
  refine wl_nil ?_
  refine zE ?_
  refine zA ?_
  refine zB ?_
  iterate 2 refine wl_pure Tryz.hT rfl rfl rfl ?_
  refine wl_call1 rfl rfl rfl rfl rfl rfl (by kernel_rfl) (fun W hp => (rdiv_gives p q h W (hv.hp hp) (ht.hp hp)).cast (by rw [divR, if_neg h0])) ?_
  iterate 5 refine wl_pure Tryz.hT rfl rfl rfl ?_
  refine wl_nil ?_
  refine zE ?_
  refine zA ?_
  refine zB ?_
  iterate 2 refine wl_pure Tryz.hT rfl rfl rfl ?_
  refine wl_nil ?_
  refine zE ?_
  refine zO ?_
  exact ne_ret1 Tryz.hT rfl (.tmp rfl) () rfl trivial fun W _ => NewBx.nil _ _
theorem fcompare_gives (p q : Rat) (h : Sz2 p q) (W : World) (hv : MaxP W) (ht : TabP W) :
    CallsR Tryz.prog 128 #[str (numS p), str (numS q)] W (fun _ : Unit => .int .i64 (cmpQ p q)) (fun _ => True) (fun _ => []) := by
  refine calls_enter (args := [str (numS p), str (numS q)]) Tryz.func128 rfl rfl rfl ?_
  refine zA ?_
  refine zB ?_
  refine wl_pure Tryz.hT rfl rfl rfl ?_
  refine wl_nil ?_
  refine zE ?_
  refine zA ?_
  refine zB ?_
  iterate 2 refine wl_pure Tryz.hT rfl rfl rfl ?_
  refine wl_call1 rfl rfl rfl rfl rfl rfl (by kernel_rfl) (fun W hp => (rcompare_gives p q h W (hv.hp hp) (ht.hp hp)).cast (by rw [cmpZ_Q])) ?_
  iterate 5 refine wl_pure Tryz.hT rfl rfl rfl ?_
  refine wl_nil ?_
  refine zE ?_
  refine zA ?_
  refine zB ?_
  iterate 2 refine wl_pure Tryz.hT rfl rfl rfl ?_
  refine wl_nil ?_
  refine zE ?_
  refine zO ?_
  exact ne_ret1 Tryz.hT rfl (.tmp rfl) () rfl trivial fun W _ => NewBx.nil _ _
end Go.Proofs.YtlagebbefnnnnaaGreatDoor
namespace Go.Proofs.YtlagebbefnnnnaaGreatDoor
open Go Go.RowKit Go.Am Go.Lib
set_option maxRecDepth 10000
-- BOXES 4
set_option maxHeartbeats 4000000 in
theorem rparts_gives (q : Rat) (h : okQ q) (W : World) (hv : MaxP W) (ht : TabP W) :
    CallsR Tryz.prog 153 #[str (numS q)] W (fun _ : Unit => .tuple #[str (itoa q.num), str (itoa (q.den : Nat)), .int .i64 0]) (fun _ => True) (fun _ => []) := by
  have hl := numS_len h
  refine calls_enter (args := [str (numS q)]) Tryz.func153 rfl rfl rfl ?_
  repeat (first | refine zA ?_ | refine zB ?_ | refine zC ?_ | refine zD ?_ | refine zE ?_ | refine zF ?_ | refine zG ?_ | refine zH ?_ | refine zI ?_ | refine zJ ?_ | refine zK ?_ | refine zL ?_ | refine zM rfl ?_ | refine zN ?_ | refine zO ?_ | refine zP ?_ | refine zQ ?_ | refine zR rfl ?_ | refine zS rfl ?_ | refine zT Tryz.mixed (by kernel_rfl) ?_)
  iterate 3 refine wl_pure Tryz.hT rfl rfl rfl ?_
  refine wl_nil ?_
  repeat (first | refine zA ?_ | refine zB ?_ | refine zC ?_ | refine zD ?_ | refine zE ?_ | refine zF ?_ | refine zG ?_ | refine zH ?_ | refine zI ?_ | refine zJ ?_ | refine zK ?_ | refine zL ?_ | refine zM rfl ?_ | refine zN ?_ | refine zO ?_ | refine zP ?_ | refine zQ ?_ | refine zR rfl ?_ | refine zS rfl ?_ | refine zT Tryz.mixed (by kernel_rfl) ?_)
  refine wl_pure Tryz.hT rfl rfl rfl ?_
  refine wl_call1 rfl rfl rfl rfl rfl rfl (by kernel_rfl) (fun W hp => (rread_gives (numS q) (by omega) W (hv.hp hp) (ht.hp hp)).cast (rd_num h)) ?_
  iterate 3 refine wl_pure Tryz.hT rfl rfl rfl ?_
  (refine wl_allocZ Tryz.hZ rfl rfl rfl rfl ?_; intro)
  (first | refine wl_storeBx 0 Tryz.hT rfl rfl rfl rfl rfl rfl rfl rfl rfl rfl rfl ?_ | refine wl_storeBx 1 Tryz.hT rfl rfl rfl rfl rfl rfl rfl rfl rfl rfl rfl ?_ | refine wl_storeBx 2 Tryz.hT rfl rfl rfl rfl rfl rfl rfl rfl rfl rfl rfl ?_ | refine wl_storeBx 3 Tryz.hT rfl rfl rfl rfl rfl rfl rfl rfl rfl rfl rfl ?_)
  refine wl_pure Tryz.hT rfl rfl rfl ?_
  refine wl_nil ?_
  repeat (first | refine zA ?_ | refine zB ?_ | refine zC ?_ | refine zD ?_ | refine zE ?_ | refine zF ?_ | refine zG ?_ | refine zH ?_ | refine zI ?_ | refine zJ ?_ | refine zK ?_ | refine zL ?_ | refine zM rfl ?_ | refine zN ?_ | refine zO ?_ | refine zP ?_ | refine zQ ?_ | refine zR rfl ?_ | refine zS rfl ?_ | refine zT Tryz.mixed (by kernel_rfl) ?_)
  refine wq_pure Tryz.hT rfl rfl rfl ?_
  (first | refine wq_loadBx 0 Tryz.hT rfl rfl rfl rfl rfl rfl rfl rfl ?_ | refine wq_loadBx 1 Tryz.hT rfl rfl rfl rfl rfl rfl rfl rfl ?_ | refine wq_loadBx 2 Tryz.hT rfl rfl rfl rfl rfl rfl rfl rfl ?_ | refine wq_loadBx 3 Tryz.hT rfl rfl rfl rfl rfl rfl rfl rfl ?_)
  refine wq_pure Tryz.hT rfl rfl rfl ?_
  (first | refine wq_loadBx 0 Tryz.hT rfl rfl rfl rfl rfl rfl rfl rfl ?_ | refine wq_loadBx 1 Tryz.hT rfl rfl rfl rfl rfl rfl rfl rfl ?_ | refine wq_loadBx 2 Tryz.hT rfl rfl rfl rfl rfl rfl rfl rfl ?_ | refine wq_loadBx 3 Tryz.hT rfl rfl rfl rfl rfl rfl rfl rfl ?_)
  iterate 4 refine wq_pure Tryz.hT rfl rfl rfl ?_
  refine wq_nil ?_
  refine wl_nil ?_
  repeat (first | refine zA ?_ | refine zB ?_ | refine zC ?_ | refine zD ?_ | refine zE ?_ | refine zF ?_ | refine zG ?_ | refine zH ?_ | refine zI ?_ | refine zJ ?_ | refine zK ?_ | refine zL ?_ | refine zM rfl ?_ | refine zN ?_ | refine zO ?_ | refine zP ?_ | refine zQ ?_ | refine zR rfl ?_ | refine zS rfl ?_ | refine zT Tryz.mixed (by kernel_rfl) ?_)
  exact ne_ret3 Tryz.hT rfl (.tmp rfl) (.tmp rfl) (.tmp rfl) () rfl trivial fun W _ => NewBx.nil _ _
/-- A row of strings. -/
def StrsP (W : World) (p : Option Addr) (l : List (List UInt8)) : Prop := l = [] ∨ ∃ b off, p = some ⟨b, off, none⟩ ∧ RowAt W b off (l.map str)
theorem StrsP.below {W W' : World} {p : Option Addr} {l : List (List UInt8)} {n : Nat} (h : StrsP W p l) (hn : W.heap.size ≤ n) (hb : Below n W W') : StrsP W' p l := by
  rcases h with h | ⟨b, off, h1, h2⟩
  · exact .inl h
  · exact .inr ⟨b, off, h1, h2.below hn hb⟩
theorem StrsP.hp {W0 W : World} {bxs : List Bx} {p : Option Addr} {l : List (List UInt8)} (h : StrsP W0 p l) (hp : Hp W0 bxs W) : StrsP W p l := h.below (Nat.le_refl _) hp.below
theorem StrsP.row {W : World} {p : Option Addr} {l : List (List UInt8)} (h : StrsP W p l) {i : Nat} (hi : i < l.length) : ∃ b off, p = some ⟨b, off, none⟩ ∧ ∀ k (hk : k < l.length), RowAt W b (off + k * 1) [str l[k]] := by
  rcases h with rfl | ⟨b, off, h1, h2⟩
  · exact absurd hi (Nat.not_lt_zero _)
  · refine ⟨b, off, h1, fun k hk => ⟨h2.lt, fun j u hu => ?_⟩⟩
    have hj : j = 0 := by have := (List.getElem?_eq_some_iff.1 hu).1; simpa using this
    subst hj
    have := h2.get k (str l[k]) (by rw [List.getElem?_map, List.getElem?_eq_getElem hk]; rfl)
    rw [Nat.mul_one, Nat.add_zero, this]
    simpa using hu
theorem it_pos (n : Nat) : itoa (n : Int) = decDigits n := by
  unfold itoa; rw [if_neg (by omega)]; rfl
abbrev q2 (n : Int) (d : Nat) (h : d ≠ 0 := by decide) (hc : n.natAbs.Coprime d := by decide) : Rat := ⟨n, d, h, hc⟩
theorem dd1 (n : Nat) (h : n < 10) : decDigits n = [UInt8.ofNat (48 + n)] := by rw [decDigits, dif_pos h]
theorem dd2 (n : Nat) (h : ¬ n < 10) (h2 : n / 10 < 10) : decDigits n = [UInt8.ofNat (48 + n / 10), UInt8.ofNat (48 + n % 10)] := by
  rw [decDigits, dif_neg h, dd1 _ h2]; rfl
theorem ns0 : numS (q2 0 1) = [48] := by rw [numS, parS, if_pos rfl]; exact (it_pos 0).trans (dd1 0 (by decide))
theorem ns1 : numS (q2 1 1) = [49] := by rw [numS, parS, if_pos rfl]; exact (it_pos 1).trans (dd1 1 (by decide))
theorem ns2 : numS (q2 2 1) = [50] := by rw [numS, parS, if_pos rfl]; exact (it_pos 2).trans (dd1 2 (by decide))
theorem ns3 : numS (q2 3 1) = [51] := by rw [numS, parS, if_pos rfl]; exact (it_pos 3).trans (dd1 3 (by decide))
theorem ns5 : numS (q2 5 1) = [53] := by rw [numS, parS, if_pos rfl]; exact (it_pos 5).trans (dd1 5 (by decide))
theorem ns6 : numS (q2 6 1) = [54] := by rw [numS, parS, if_pos rfl]; exact (it_pos 6).trans (dd1 6 (by decide))
theorem ns8 : numS (q2 8 1) = [56] := by rw [numS, parS, if_pos rfl]; exact (it_pos 8).trans (dd1 8 (by decide))
theorem ns10 : numS (q2 10 1) = [49, 48] := by rw [numS, parS, if_pos rfl]; exact (it_pos 10).trans (dd2 10 (by decide) (by decide))
theorem ns12 : numS (q2 1 2) = [49, 47, 50] := by
  rw [numS, parS, if_neg (by decide), show itoa (q2 1 2).num = [49] from (it_pos 1).trans (dd1 1 (by decide)), show decDigits (q2 1 2).den = [50] from dd1 2 (by decide)]; rfl
theorem nsm12 : numS (q2 (-1) 2) = [45, 49, 47, 50] := by
  rw [numS, parS, if_neg (by decide), show itoa (q2 (-1) 2).num = [45, 49] from (itoa_neg (m := 1) (by decide)).trans (by rw [dd1 1 (by decide)]; rfl), show decDigits (q2 (-1) 2).den = [50] from dd1 2 (by decide)]; rfl
theorem ns325 : numS (q2 32 5) = [51, 50, 47, 53] := by
  rw [numS, parS, if_neg (by decide), show itoa (q2 32 5).num = [51, 50] from (it_pos 32).trans (dd2 32 (by decide) (by decide)), show decDigits (q2 32 5).den = [53] from dd1 5 (by decide)]; rfl
end Go.Proofs.YtlagebbefnnnnaaGreatDoor
namespace Go.Proofs.YtlagebbefnnnnaaGreatDoor
open Go Go.RowKit Go.Am Go.Lib
set_option maxRecDepth 10000
-- BOXES 4
theorem fdigits_gives (z : Int) : Gives Tryz.prog 199 [str (itoa z)] (.int .i64 ((decDigits z.natAbs).length : Nat)) := by
  intro W
  refine calls_enter Tryz.func199 rfl rfl rfl ?_
  refine zA ?_
  refine zB ?_
  refine wl_pure Tryz.hT rfl rfl rfl ?_
  refine wl_nil ?_
  refine zE ?_
  refine zA ?_
  refine zB ?_
  refine wl_pure Tryz.hT rfl rfl rfl ?_
  refine wl_call1 rfl rfl rfl rfl rfl rfl (by kernel_rfl) (fun W _ => (trimPrefix_gives (itoa z) [45] W).cast (by rw [trimPrefix_itoa])) ?_
  refine wl_pure Tryz.hT rfl rfl rfl ?_
  refine wl_upd 5 (.int .i64 ((decDigits z.natAbs).length : Nat)) rfl (congrArg (fun n : Nat => Value.int .i64 (n : Int)) (str_size _)) ?_
  refine wl_pure Tryz.hT rfl rfl rfl ?_
  refine wl_nil ?_
  refine zE ?_
  refine zO ?_
  exact ne_ret1 Tryz.hT rfl (.tmp rfl) () rfl trivial fun W _ => NewBx.nil _ _
set_option maxHeartbeats 4000000 in
theorem fnumber_gives (q : Rat) (h : szQ q 36) (W : World) (hv : MaxP W) (ht : TabP W) :
    CallsR Tryz.prog 133 #[str (numS q)] W (fun _ : Unit => .int .i64 0) (fun _ => True) (fun _ => []) := by
  have hk := h.ok (by decide)
  have hl := numS_len hk
  have l1 := dd_len 36 q.num.natAbs (by decide) h.1
  have l2 := dd_len 36 ((q.den : Nat) : Int).natAbs (by decide) (by rw [Int.natAbs_natCast]; exact h.2)
  refine calls_enter (args := [str (numS q)]) Tryz.func133 rfl rfl rfl ?_
  refine zA ?_
  refine zB ?_
  refine wl_pure Tryz.hT rfl rfl rfl ?_
  refine wl_nil ?_
  refine zE ?_
  iterate 2 refine zA ?_
  refine zB ?_
  refine wl_pure Tryz.hT rfl rfl rfl ?_
  refine wl_call1 rfl rfl rfl rfl rfl rfl (by kernel_rfl) (fun W hp => (rcheck_gives (numS q) (by omega) W (hv.hp hp) (ht.hp hp)).cast (by rw [rd_okQ hk])) ?_
  refine wl_pure Tryz.hT rfl rfl rfl ?_
  refine wl_nil ?_
  refine zE ?_
  refine zA ?_
  refine zB ?_
  iterate 2 refine wl_pure Tryz.hT rfl rfl rfl ?_
  refine wl_nil ?_
  refine zE ?_
  refine zS rfl ?_
  refine zI ?_
  refine zE ?_
  iterate 2 refine zA ?_
  refine zB ?_
  refine wl_pure Tryz.hT rfl rfl rfl ?_
  refine wl_call1 rfl rfl rfl rfl rfl rfl (by kernel_rfl) (fun W hp => rparts_gives q hk W (hv.hp hp) (ht.hp hp)) ?_
  iterate 7 refine wl_pure Tryz.hT rfl rfl rfl ?_
  refine wl_nil ?_
  refine zE ?_
  refine zA ?_
  refine zB ?_
  refine wl_pure Tryz.hT rfl rfl rfl ?_
  refine wl_call1 rfl rfl rfl rfl rfl rfl (by kernel_rfl) (fun W _ => fdigits_gives q.num W) ?_
  refine wl_pure Tryz.hT rfl rfl rfl ?_
  refine wl_call1 rfl rfl rfl rfl rfl rfl (by kernel_rfl) (fun W _ => fdigits_gives (q.den : Nat) W) ?_
  iterate 2 refine wl_pure Tryz.hT rfl rfl rfl ?_
  refine wl_upd 23 (.bool false) rfl (congrArg Value.bool (decide_eq_false (by
    show ¬ ((if _ > _ then _ else _) > _)
    split <;> omega))) ?_
  refine wl_nil ?_
  refine zE ?_
  refine zS rfl ?_
  refine zI ?_
  refine zE ?_
  refine zA ?_
  refine zB ?_
  refine wl_pure Tryz.hT rfl rfl rfl ?_
  refine wl_nil ?_
  refine zE ?_
  refine zO ?_
  exact ne_ret1 Tryz.hT rfl (.tmp rfl) () rfl trivial fun W _ => NewBx.nil _ _
theorem hasPrefix_numS (q : Rat) : hasPrefix (numS q) [45] = decide (q.num < 0) := by
  have h := hasPrefix_itoa q.num
  unfold numS parS
  split
  · exact h
  · rw [hasPrefix45] at h ⊢
    rw [← h]
    have hne : (itoa q.num) ≠ [] := by
      unfold itoa
      split
      · intro h; cases h
      · exact dd_ne _
    rw [List.getElem?_append_left (List.length_pos_iff.2 hne)]
/-- A front. -/
structure FrP where
  ax : Bool
  pos : Int
  hd : Int
  sp : Rat
  st : Rat
abbrev frV (f : FrP) : Value := .agg #[.bool f.ax, .int .i64 f.pos, .int .i64 f.hd, str (numS f.sp), str (numS f.st)]
structure FrP.OK (f : FrP) : Prop where
  p0 : 0 ≤ f.pos
  p1 : f.pos ≤ 65536
  hd : f.hd = 1 ∨ f.hd = -1
  sp : szQ f.sp 36
  st : szQ f.st 36
  sp0 : 0 ≤ f.sp.num
set_option maxHeartbeats 8000000 in
theorem fcheck_gives (f : FrP) (h : f.OK) (W : World) (hv : MaxP W) (ht : TabP W) :
    CallsR Tryz.prog 123 #[frV f] W (fun _ : Unit => .int .i64 0) (fun _ => True) (fun _ => []) := by
  obtain ⟨p0, p1, hhd, hsp, hst, hsp0⟩ := h
  have l1 := numS_len (hsp.ok (by decide))
  have l2 := numS_len (hst.ok (by decide))
  refine calls_enter (args := [frV f]) Tryz.func123 rfl rfl rfl ?_
  refine zA ?_
  refine zB ?_
  (refine wl_box rfl rfl rfl rfl ?_; intro)
  refine wl_pure Tryz.hT rfl rfl rfl ?_
  refine wl_nil ?_
  rename_i b1
  refine ne_then ?_
  iterate 2 refine wc_seq ?_
  refine wc_cutS (X := Unit) (fun _ => [(1, selfP b1), (2, .int .i64 0), (26, .bool false)]) (fun _ => [⟨b1, 39, [.bool f.ax, .int .i64 f.pos, .int .i64 f.hd, str (numS f.sp), str (numS f.st)], true, none⟩]) (fun _ => True) ?_ ?_
  · refine zB ?_
    refine wl_pure Tryz.hT rfl rfl rfl ?_
    refine wl_loadBx 0 Tryz.hT rfl rfl rfl rfl rfl rfl rfl rfl ?_
    refine wl_pure Tryz.hT rfl rfl rfl ?_
    refine wl_upd 11 (.bool false) rfl (congrArg Value.bool (decide_eq_false (by omega))) ?_
    iterate 2 refine wl_pure Tryz.hT rfl rfl rfl ?_
    refine wl_loadBx 0 Tryz.hT rfl rfl rfl rfl rfl rfl rfl rfl ?_
    refine wl_pure Tryz.hT rfl rfl rfl ?_
    refine wl_upd 15 (.bool false) rfl (congrArg Value.bool (decide_eq_false (by omega))) ?_
    iterate 3 refine wl_pure Tryz.hT rfl rfl rfl ?_
    refine wl_loadBx 0 Tryz.hT rfl rfl rfl rfl rfl rfl rfl rfl ?_
    refine wl_pure Tryz.hT rfl rfl rfl ?_
    rcases hhd with e | e
    · refine wl_upd 20 (.bool false) rfl (congrArg Value.bool (by rw [e]; rfl)) ?_
      refine wl_pure Tryz.hT rfl rfl rfl ?_
      iterate 3 refine wl_skip rfl rfl ?_
      iterate 2 refine wl_pure Tryz.hT rfl rfl rfl ?_
      refine wl_nil ?_
      exact ne_cut () trivial ⟨rfl, rfl, rfl, trivial⟩ [] rfl
    · refine wl_upd 20 (.bool true) rfl (congrArg Value.bool (by rw [e]; rfl)) ?_
      iterate 2 refine wl_pure Tryz.hT rfl rfl rfl ?_
      refine wl_loadBx 0 Tryz.hT rfl rfl rfl rfl rfl rfl rfl rfl ?_
      refine wl_pure Tryz.hT rfl rfl rfl ?_
      refine wl_upd 24 (.bool false) rfl (congrArg Value.bool (by rw [e]; rfl)) ?_
      iterate 2 refine wl_pure Tryz.hT rfl rfl rfl ?_
      refine wl_nil ?_
      exact ne_cut () trivial ⟨rfl, rfl, rfl, trivial⟩ [] rfl
  · intro _ _
    refine zS rfl ?_
    refine zI ?_
    refine zE ?_
    iterate 2 refine zA ?_
    refine zB ?_
    refine wl_pure Tryz.hT rfl rfl rfl ?_
    refine wl_loadBx 0 Tryz.hT rfl rfl rfl rfl rfl rfl rfl rfl ?_
    refine wl_pure Tryz.hT rfl rfl rfl ?_
    refine wl_loadBx 0 Tryz.hT rfl rfl rfl rfl rfl rfl rfl rfl ?_
    refine wl_buildRowZ Tryz.hZ Tryz.hT rfl rfl rfl rfl rfl rfl rfl rfl rfl rfl rfl fun bS => ?_
    iterate 2 refine wl_pure Tryz.hT rfl rfl rfl ?_
    refine wl_nil ?_
    refine ne_then ?_
    refine wc_cutS (X := Unit) (fun _ => [(1, selfP b1), (2, .int .i64 0)]) (fun _ => [⟨b1, 39, [.bool f.ax, .int .i64 f.pos, .int .i64 f.hd, str (numS f.sp), str (numS f.st)], true, none⟩]) (fun _ => True) ?_ ?_
    · refine wc_block ?_
      refine wc_loop (X := Nat) (fun i => [(1, selfP b1), (2, .int .i64 0), (31, .slice (some ⟨bS, 0, none⟩) 2 2), (32, .int .i64 2), (33, .int .i64 (i : Nat))]) (fun _ => [⟨b1, 39, [.bool f.ax, .int .i64 f.pos, .int .i64 f.hd, str (numS f.sp), str (numS f.st)], true, none⟩, ⟨bS, 37, [str (numS f.sp), str (numS f.st)], true, none⟩]) (fun i => i ≤ 2) (fun i => 2 - i) 0 (Nat.zero_le _) ⟨rfl, rfl, rfl, rfl, rfl, trivial⟩ [] rfl ?_
      intro i hi
      have hi : i = 0 ∨ i = 1 ∨ i = 2 := by have : i ≤ 2 := hi; omega
      rcases hi with rfl | rfl | rfl
      · refine zA ?_
        refine zB ?_
        refine wl_pure Tryz.hT rfl rfl rfl ?_
        refine wl_nil ?_
        refine zE ?_
        refine zA ?_
        refine zR rfl ?_
        refine zI ?_
        refine zE ?_
        refine zA ?_
        refine zH ?_
        refine zA ?_
        refine zB ?_
        refine wl_indexAddr Tryz.hT rfl rfl rfl rfl rfl rfl rfl (by omega) (by omega) ?_
        refine wl_loadBx 1 Tryz.hT rfl rfl rfl rfl rfl rfl rfl rfl ?_
        refine wl_pure Tryz.hT rfl rfl rfl ?_
        refine wl_nil ?_
        refine zE ?_
        refine zA ?_
        refine zB ?_
        refine wl_pure Tryz.hT rfl rfl rfl ?_
        refine wl_call1 rfl rfl rfl rfl rfl rfl (by kernel_rfl) (fun W hp => (rcheck_gives (numS f.sp) (by omega) W (hv.hp hp) (ht.hp hp)).cast (by rw [rd_okQ (hsp.ok (by decide))])) ?_
        refine wl_pure Tryz.hT rfl rfl rfl ?_
        refine wl_nil ?_
        refine zE ?_
        refine zA ?_
        refine zB ?_
        iterate 2 refine wl_pure Tryz.hT rfl rfl rfl ?_
        refine wl_nil ?_
        refine zE ?_
        refine zS rfl ?_
        refine zI ?_
        refine zN ?_
        refine zE ?_
        refine zB ?_
        iterate 2 refine wl_pure Tryz.hT rfl rfl rfl ?_
        refine wl_nil ?_
        exact ne_loop 1 (by decide) (by decide) ⟨rfl, rfl, rfl, rfl, rfl, trivial⟩ [] rfl
      · refine zA ?_
        refine zB ?_
        refine wl_pure Tryz.hT rfl rfl rfl ?_
        refine wl_nil ?_
        refine zE ?_
        refine zA ?_
        refine zR rfl ?_
        refine zI ?_
        refine zE ?_
        refine zA ?_
        refine zH ?_
        refine zA ?_
        refine zB ?_
        refine wl_indexAddr Tryz.hT rfl rfl rfl rfl rfl rfl rfl (by omega) (by omega) ?_
        refine wl_loadBx 1 Tryz.hT rfl rfl rfl rfl rfl rfl rfl rfl ?_
        refine wl_pure Tryz.hT rfl rfl rfl ?_
        refine wl_nil ?_
        refine zE ?_
        refine zA ?_
        refine zB ?_
        refine wl_pure Tryz.hT rfl rfl rfl ?_
        refine wl_call1 rfl rfl rfl rfl rfl rfl (by kernel_rfl) (fun W hp => (rcheck_gives (numS f.st) (by omega) W (hv.hp hp) (ht.hp hp)).cast (by rw [rd_okQ (hst.ok (by decide))])) ?_
        refine wl_pure Tryz.hT rfl rfl rfl ?_
        refine wl_nil ?_
        refine zE ?_
        refine zA ?_
        refine zB ?_
        iterate 2 refine wl_pure Tryz.hT rfl rfl rfl ?_
        refine wl_nil ?_
        refine zE ?_
        refine zS rfl ?_
        refine zI ?_
        refine zN ?_
        refine zE ?_
        refine zB ?_
        iterate 2 refine wl_pure Tryz.hT rfl rfl rfl ?_
        refine wl_nil ?_
        exact ne_loop 2 (by decide) (by decide) ⟨rfl, rfl, rfl, rfl, rfl, trivial⟩ [] rfl
      · refine zA ?_
        refine zB ?_
        refine wl_pure Tryz.hT rfl rfl rfl ?_
        refine wl_nil ?_
        refine zE ?_
        refine zA ?_
        refine zS rfl ?_
        refine zJ ?_
        iterate 2 refine zK ?_
        refine zL ?_
        exact ne_cut () trivial ⟨rfl, rfl, trivial⟩ _ rfl
    · intro _ _
      refine wc_seq ?_
      refine zA ?_
      refine zB ?_
      refine wl_pure Tryz.hT rfl rfl rfl ?_
      refine wl_loadBx 0 Tryz.hT rfl rfl rfl rfl rfl rfl rfl rfl ?_
      refine wl_pure Tryz.hT rfl rfl rfl ?_
      refine wl_loadBx 0 Tryz.hT rfl rfl rfl rfl rfl rfl rfl rfl ?_
      refine wl_buildRowZ Tryz.hZ Tryz.hT rfl rfl rfl rfl rfl rfl rfl rfl rfl rfl rfl fun bT => ?_
      iterate 2 refine wl_pure Tryz.hT rfl rfl rfl ?_
      refine wl_nil ?_
      refine ne_then ?_
      refine wc_cutS (X := Unit) (fun _ => [(1, selfP b1), (2, .int .i64 0)]) (fun _ => [⟨b1, 39, [.bool f.ax, .int .i64 f.pos, .int .i64 f.hd, str (numS f.sp), str (numS f.st)], true, none⟩]) (fun _ => True) ?_ ?_
      · refine wc_block ?_
        refine wc_loop (X := Nat) (fun i => [(1, selfP b1), (2, .int .i64 0), (47, .slice (some ⟨bT, 0, none⟩) 2 2), (48, .int .i64 2), (49, .int .i64 (i : Nat))]) (fun _ => [⟨b1, 39, [.bool f.ax, .int .i64 f.pos, .int .i64 f.hd, str (numS f.sp), str (numS f.st)], true, none⟩, ⟨bT, 37, [str (numS f.sp), str (numS f.st)], true, none⟩]) (fun i => i ≤ 2) (fun i => 2 - i) 0 (Nat.zero_le _) ⟨rfl, rfl, rfl, rfl, rfl, trivial⟩ [] rfl ?_
        intro i hi
        have hi : i = 0 ∨ i = 1 ∨ i = 2 := by have : i ≤ 2 := hi; omega
        rcases hi with rfl | rfl | rfl
        · refine zA ?_
          refine zB ?_
          refine wl_pure Tryz.hT rfl rfl rfl ?_
          refine wl_nil ?_
          refine zE ?_
          refine zA ?_
          refine zR rfl ?_
          refine zI ?_
          refine zE ?_
          refine zA ?_
          refine zH ?_
          refine zA ?_
          refine zB ?_
          refine wl_indexAddr Tryz.hT rfl rfl rfl rfl rfl rfl rfl (by omega) (by omega) ?_
          refine wl_loadBx 1 Tryz.hT rfl rfl rfl rfl rfl rfl rfl rfl ?_
          refine wl_pure Tryz.hT rfl rfl rfl ?_
          refine wl_nil ?_
          refine zE ?_
          refine zA ?_
          refine zB ?_
          refine wl_pure Tryz.hT rfl rfl rfl ?_
          refine wl_call1 rfl rfl rfl rfl rfl rfl (by kernel_rfl) (fun W hp => fnumber_gives f.sp hsp W (hv.hp hp) (ht.hp hp)) ?_
          refine wl_pure Tryz.hT rfl rfl rfl ?_
          refine wl_nil ?_
          refine zE ?_
          refine zA ?_
          refine zB ?_
          iterate 2 refine wl_pure Tryz.hT rfl rfl rfl ?_
          refine wl_nil ?_
          refine zE ?_
          refine zS rfl ?_
          refine zI ?_
          refine zN ?_
          refine zE ?_
          refine zB ?_
          iterate 2 refine wl_pure Tryz.hT rfl rfl rfl ?_
          refine wl_nil ?_
          exact ne_loop 1 (by decide) (by decide) ⟨rfl, rfl, rfl, rfl, rfl, trivial⟩ [] rfl
        · refine zA ?_
          refine zB ?_
          refine wl_pure Tryz.hT rfl rfl rfl ?_
          refine wl_nil ?_
          refine zE ?_
          refine zA ?_
          refine zR rfl ?_
          refine zI ?_
          refine zE ?_
          refine zA ?_
          refine zH ?_
          refine zA ?_
          refine zB ?_
          refine wl_indexAddr Tryz.hT rfl rfl rfl rfl rfl rfl rfl (by omega) (by omega) ?_
          refine wl_loadBx 1 Tryz.hT rfl rfl rfl rfl rfl rfl rfl rfl ?_
          refine wl_pure Tryz.hT rfl rfl rfl ?_
          refine wl_nil ?_
          refine zE ?_
          refine zA ?_
          refine zB ?_
          refine wl_pure Tryz.hT rfl rfl rfl ?_
          refine wl_call1 rfl rfl rfl rfl rfl rfl (by kernel_rfl) (fun W hp => fnumber_gives f.st hst W (hv.hp hp) (ht.hp hp)) ?_
          refine wl_pure Tryz.hT rfl rfl rfl ?_
          refine wl_nil ?_
          refine zE ?_
          refine zA ?_
          refine zB ?_
          iterate 2 refine wl_pure Tryz.hT rfl rfl rfl ?_
          refine wl_nil ?_
          refine zE ?_
          refine zS rfl ?_
          refine zI ?_
          refine zN ?_
          refine zE ?_
          refine zB ?_
          iterate 2 refine wl_pure Tryz.hT rfl rfl rfl ?_
          refine wl_nil ?_
          exact ne_loop 2 (by decide) (by decide) ⟨rfl, rfl, rfl, rfl, rfl, trivial⟩ [] rfl
        · refine zA ?_
          refine zB ?_
          refine wl_pure Tryz.hT rfl rfl rfl ?_
          refine wl_nil ?_
          refine zE ?_
          refine zA ?_
          refine zS rfl ?_
          refine zJ ?_
          iterate 2 refine zK ?_
          refine zL ?_
          exact ne_cut () trivial ⟨rfl, rfl, trivial⟩ _ rfl
      · intro _ _
        refine wc_seq ?_
        refine zA ?_
        refine zB ?_
        refine wl_pure Tryz.hT rfl rfl rfl ?_
        refine wl_loadBx 0 Tryz.hT rfl rfl rfl rfl rfl rfl rfl rfl ?_
        refine wl_call1 rfl rfl rfl rfl rfl rfl (by kernel_rfl) (fun W _ => (prefix_gives (numS f.sp) [45] W).cast (by rw [hasPrefix_numS, decide_eq_false (by omega)])) ?_
        refine wl_nil ?_
        refine zE ?_
        refine zS rfl ?_
        refine zI ?_
        refine zE ?_
        refine zA ?_
        refine zB ?_
        refine wl_pure Tryz.hT rfl rfl rfl ?_
        refine wl_nil ?_
        refine zE ?_
        refine zO ?_
        exact ne_ret1 Tryz.hT rfl (.tmp rfl) () rfl trivial fun W _ => NewBx.nil _ _
end Go.Proofs.YtlagebbefnnnnaaGreatDoor
namespace Go.Proofs.YtlagebbefnnnnaaGreatDoor
open Go Go.RowKit Go.Am Go.Lib
set_option maxRecDepth 10000
-- BOXES 4
set_option maxHeartbeats 8000000 in
theorem fstart_gives (f : FrP) (h : f.OK) (q : Rat) (hq : szQ q 36) (b : Nat) (W : World) (hv : MaxP W) (ht : TabP W) (hrow : RowAt W b 0 [str (numS q)]) :
    CallsR Tryz.prog 56 #[frV f, .slice (some ⟨b, 0, none⟩) 1 1] W (fun _ : Unit => .int .i64 0) (fun _ => True) (fun _ => []) := by
  refine calls_enter (args := [frV f, .slice (some ⟨b, 0, none⟩) 1 1]) Tryz.func56 rfl rfl rfl ?_
  refine zA ?_
  refine zB ?_
  (refine wl_box rfl rfl rfl rfl ?_; intro)
  refine wl_pure Tryz.hT rfl rfl rfl ?_
  refine wl_nil ?_
  rename_i b2
  refine zE ?_
  iterate 2 refine zA ?_
  refine zB ?_
  refine wl_loadBx 0 Tryz.hT rfl rfl rfl rfl rfl rfl rfl rfl ?_
  refine wl_call1 rfl rfl rfl rfl rfl rfl (by kernel_rfl) (fun W hp => fcheck_gives f h W (hv.hp hp) (ht.hp hp)) ?_
  refine wl_pure Tryz.hT rfl rfl rfl ?_
  refine wl_nil ?_
  refine zE ?_
  refine zS rfl ?_
  refine zI ?_
  refine zE ?_
  iterate 2 refine zA ?_
  refine zB ?_
  iterate 3 refine wl_pure Tryz.hT rfl rfl rfl ?_
  refine wl_nil ?_
  refine ne_then ?_
  refine wc_cutS (X := Unit) (fun _ => [(4, .int .i64 0)]) (fun _ => []) (fun _ => True) ?_ ?_
  · refine wc_block ?_
    refine wc_loop (X := Nat) (fun i => [(4, .int .i64 0), (11, .slice (some ⟨b, 0, none⟩) 1 1), (12, .int .i64 1), (13, .int .i64 (i : Nat))]) (fun _ => []) (fun i => i ≤ 1) (fun i => 1 - i) 0 (Nat.zero_le _) ⟨rfl, rfl, rfl, rfl, trivial⟩ _ rfl ?_
    intro i hi
    have hi : i = 0 ∨ i = 1 := by have : i ≤ 1 := hi; omega
    rcases hi with rfl | rfl
    · refine zA ?_
      refine zB ?_
      refine wl_pure Tryz.hT rfl rfl rfl ?_
      refine wl_nil ?_
      refine zE ?_
      refine zA ?_
      refine zR rfl ?_
      refine zI ?_
      refine zE ?_
      refine zA ?_
      refine zH ?_
      refine zA ?_
      refine zB ?_
      refine wl_indexAddr Tryz.hT rfl rfl rfl rfl rfl rfl rfl (by omega) (by omega) ?_
      refine wl_load rfl rfl rfl rfl (fun W hp => RowAt.load 0 Tryz.hT rfl ((fun W hp => hrow.hp hp) W hp) rfl) ?_
      refine wl_pure Tryz.hT rfl rfl rfl ?_
      refine wl_nil ?_
      refine zE ?_
      refine zA ?_
      refine zB ?_
      refine wl_pure Tryz.hT rfl rfl rfl ?_
      refine wl_call1 rfl rfl rfl rfl rfl rfl (by kernel_rfl) (fun W hp => fnumber_gives q hq W (hv.hp hp) (ht.hp hp)) ?_
      refine wl_pure Tryz.hT rfl rfl rfl ?_
      refine wl_nil ?_
      refine zE ?_
      refine zA ?_
      refine zB ?_
      iterate 2 refine wl_pure Tryz.hT rfl rfl rfl ?_
      refine wl_nil ?_
      refine zE ?_
      refine zS rfl ?_
      refine zI ?_
      refine zN ?_
      refine zE ?_
      refine zB ?_
      iterate 2 refine wl_pure Tryz.hT rfl rfl rfl ?_
      refine wl_nil ?_
      exact ne_loop 1 (by decide) (by decide) ⟨rfl, rfl, rfl, rfl, trivial⟩ [] rfl
    · refine zA ?_
      refine zB ?_
      refine wl_pure Tryz.hT rfl rfl rfl ?_
      refine wl_nil ?_
      refine zE ?_
      refine zA ?_
      refine zS rfl ?_
      refine zJ ?_
      iterate 2 refine zK ?_
      refine zL ?_
      exact ne_cut () trivial ⟨rfl, trivial⟩ _ rfl
  · intro _ _
    refine zA ?_
    refine zB ?_
    refine wl_pure Tryz.hT rfl rfl rfl ?_
    refine wl_nil ?_
    refine zE ?_
    refine zO ?_
    exact ne_ret1 Tryz.hT rfl (.tmp rfl) () rfl trivial fun W _ => NewBx.nil _ _
def FrP.vel (f : FrP) : Rat := (f.hd : Rat) * f.sp
def FrP.at (f : FrP) (t : Rat) : Rat := if t ≤ f.st then (f.pos : Rat) else (f.pos : Rat) + f.vel * (t - f.st)
theorem FrP.OK.hdz {f : FrP} (h : f.OK) : szQ (f.hd : Rat) 1 := szQ_int (by rcases h.hd with e | e <;> rw [e] <;> decide) (by decide)
theorem FrP.OK.posz {f : FrP} (h : f.OK) : szQ (f.pos : Rat) 5 := szQ_int (by have := h.p0; have := h.p1; show f.pos.natAbs < 100000; omega) (by decide)
theorem FrP.OK.pos64 {f : FrP} (h : f.OK) : -9223372036854775808 ≤ f.pos ∧ f.pos ≤ 9223372036854775807 := by have := h.p0; have := h.p1; omega
theorem FrP.OK.hd64 {f : FrP} (h : f.OK) : -9223372036854775808 ≤ f.hd ∧ f.hd ≤ 9223372036854775807 := by rcases h.hd with e | e <;> omega
set_option maxHeartbeats 8000000 in
theorem fvelocity_gives (f : FrP) (h : f.OK) (W : World) (hv : MaxP W) (ht : TabP W) :
    CallsR Tryz.prog 165 #[frV f] W (fun _ : Unit => str (numS f.vel)) (fun _ => True) (fun _ => []) := by
  have hz := sz2 h.hdz h.sp (by decide)
  refine calls_enter (args := [frV f]) Tryz.func165 rfl rfl rfl ?_
  refine zA ?_
  refine zB ?_
  (refine wl_box rfl rfl rfl rfl ?_; intro)
  refine wl_pure Tryz.hT rfl rfl rfl ?_
  refine wl_nil ?_
  rename_i b1
  refine zE ?_
  refine zA ?_
  refine zT Tryz.mixed (by kernel_rfl) ?_
  refine wq_pure Tryz.hT rfl rfl rfl ?_
  refine wq_loadBx 0 Tryz.hT rfl rfl rfl rfl rfl rfl rfl rfl ?_
  refine wq_call1 rfl rfl rfl rfl rfl rfl (by kernel_rfl) (fun W hp => fwhole_gives f.hd h.hd64 W (ht.hp hp)) ?_
  refine wq_pure Tryz.hT rfl rfl rfl ?_
  refine wq_loadBx 0 Tryz.hT rfl rfl rfl rfl rfl rfl rfl rfl ?_
  refine wq_call1 rfl rfl rfl rfl rfl rfl (by kernel_rfl) (fun W hp => fmul_gives (f.hd : Rat) f.sp hz W (hv.hp hp) (ht.hp hp)) ?_
  refine wq_pure Tryz.hT rfl rfl rfl ?_
  refine wq_nil ?_
  refine wl_nil ?_
  refine zE ?_
  refine zO ?_
  exact ne_ret1 Tryz.hT rfl (.tmp rfl) () rfl trivial fun W _ => NewBx.nil _ _
set_option maxHeartbeats 8000000 in
theorem fpositionG_gives (f : FrP) (h : f.OK) (t : Rat) (a b k : Nat) (hs : szQ f.sp a) (hb : szQ f.st b) (hz : szQ t k) (hk : a + b + k + 9 ≤ 300) (W : World) (hv : MaxP W) (ht : TabP W) :
    CallsR Tryz.prog 86 #[frV f, str (numS t)] W (fun _ : Unit => str (numS (f.at t))) (fun _ => True) (fun _ => []) := by
  have z1 := sz2 hz hb (by omega)
  have z2 := hz.sub hb
  have zv : szQ f.vel (1 + a) := h.hdz.mul hs
  have z3 := sz2 zv z2 (by omega)
  have z4 := zv.mul z2
  have z5 := sz2 h.posz z4 (by omega)
  refine calls_enter (args := [frV f, str (numS t)]) Tryz.func86 rfl rfl rfl ?_
  refine zA ?_
  refine zB ?_
  (refine wl_box rfl rfl rfl rfl ?_; intro)
  refine wl_pure Tryz.hT rfl rfl rfl ?_
  refine wl_nil ?_
  rename_i b2
  refine zE ?_
  iterate 2 refine zA ?_
  refine zB ?_
  iterate 2 refine wl_pure Tryz.hT rfl rfl rfl ?_
  refine wl_loadBx 0 Tryz.hT rfl rfl rfl rfl rfl rfl rfl rfl ?_
  refine wl_call1 rfl rfl rfl rfl rfl rfl (by kernel_rfl) (fun W hp => fcompare_gives t f.st z1 W (hv.hp hp) (ht.hp hp)) ?_
  refine wl_pure Tryz.hT rfl rfl rfl ?_
  refine wl_upd 9 (.bool (decide (t ≤ f.st))) rfl (congrArg Value.bool (cmpQ_le t f.st)) ?_
  refine wl_nil ?_
  refine zE ?_
  refine wc_cond rfl (fun hc => ?_) (fun hc => ?_)
  · have hc := of_decide_eq_true hc
    refine zA ?_
    refine zB ?_
    refine wl_pure Tryz.hT rfl rfl rfl ?_
    refine wl_loadBx 0 Tryz.hT rfl rfl rfl rfl rfl rfl rfl rfl ?_
    refine wl_call1 rfl rfl rfl rfl rfl rfl (by kernel_rfl) (fun W hp => fwhole_gives f.pos h.pos64 W (ht.hp hp)) ?_
    refine wl_pure Tryz.hT rfl rfl rfl ?_
    refine wl_nil ?_
    refine zE ?_
    refine zO ?_
    refine zP ?_
    exact ne_ret1 Tryz.hT rfl (.tmp rfl) () (by rw [FrP.at, if_pos hc]) trivial fun W _ => NewBx.nil _ _
  · have hc := of_decide_eq_false hc
    refine zI ?_
    refine zE ?_
    refine zA ?_
    refine zT Tryz.mixed (by kernel_rfl) ?_
    refine wq_pure Tryz.hT rfl rfl rfl ?_
    refine wq_loadBx 0 Tryz.hT rfl rfl rfl rfl rfl rfl rfl rfl ?_
    refine wq_call1 rfl rfl rfl rfl rfl rfl (by kernel_rfl) (fun W hp => fwhole_gives f.pos h.pos64 W (ht.hp hp)) ?_
    refine wq_loadBx 0 Tryz.hT rfl rfl rfl rfl rfl rfl rfl rfl ?_
    refine wq_call1 rfl rfl rfl rfl rfl rfl (by kernel_rfl) (fun W hp => fvelocity_gives f h W (hv.hp hp) (ht.hp hp)) ?_
    iterate 2 refine wq_pure Tryz.hT rfl rfl rfl ?_
    refine wq_loadBx 0 Tryz.hT rfl rfl rfl rfl rfl rfl rfl rfl ?_
    refine wq_call1 rfl rfl rfl rfl rfl rfl (by kernel_rfl) (fun W hp => fsub_gives t f.st z1 W (hv.hp hp) (ht.hp hp)) ?_
    refine wq_call1 rfl rfl rfl rfl rfl rfl (by kernel_rfl) (fun W hp => fmul_gives f.vel (t - f.st) z3 W (hv.hp hp) (ht.hp hp)) ?_
    refine wq_call1 rfl rfl rfl rfl rfl rfl (by kernel_rfl) (fun W hp => fadd_gives (f.pos : Rat) (f.vel * (t - f.st)) z5 W (hv.hp hp) (ht.hp hp)) ?_
    refine wq_pure Tryz.hT rfl rfl rfl ?_
    refine wq_nil ?_
    refine wl_nil ?_
    refine zE ?_
    refine zO ?_
    exact ne_ret1 Tryz.hT rfl (.tmp rfl) () (by rw [FrP.at, if_neg hc]) trivial fun W _ => NewBx.nil _ _
theorem fposition_gives (f : FrP) (h : f.OK) (t : Rat) (hz : szQ t 36) (W : World) (hv : MaxP W) (ht : TabP W) :
    CallsR Tryz.prog 86 #[frV f, str (numS t)] W (fun _ : Unit => str (numS (f.at t))) (fun _ => True) (fun _ => []) := fpositionG_gives f h t 36 36 36 h.sp h.st hz (by decide) W hv ht
end Go.Proofs.YtlagebbefnnnnaaGreatDoor
namespace Go.Proofs.YtlagebbefnnnnaaGreatDoor
-- OLD
open Go Go.RowKit Go.Am
set_option maxRecDepth 10000
structure Sd where
  x : Int
  y : Int
  rise : Int
  run : Int
  gable : Bool
  plate : Int
  over : Int
  deriving DecidableEq, Inhabited
abbrev Sd.cells (s : Sd) : List Value := [.int .i64 s.x, .int .i64 s.y, .int .i64 s.rise, .int .i64 s.run, .bool s.gable, .int .i64 s.plate, .int .i64 s.over]
abbrev Sd.val (s : Sd) : Value := .agg #[.int .i64 s.x, .int .i64 s.y, .int .i64 s.rise, .int .i64 s.run, .bool s.gable, .int .i64 s.plate, .int .i64 s.over]
abbrev spot (x y : Int) : Value := .agg #[.int .i64 x, .int .i64 y]
abbrev arVal (s t u : Sd) : Value := .agg #[.int .i64 s.x, .int .i64 s.y, .int .i64 s.rise, .int .i64 s.run, .bool s.gable, .int .i64 s.plate, .int .i64 s.over, .int .i64 t.x, .int .i64 t.y, .int .i64 t.rise, .int .i64 t.run, .bool t.gable, .int .i64 t.plate, .int .i64 t.over, .int .i64 u.x, .int .i64 u.y, .int .i64 u.rise, .int .i64 u.run, .bool u.gable, .int .i64 u.plate, .int .i64 u.over]
theorem corner_gives (s : Sd) : Gives Tryz.prog 168 [s.val] (spot s.x s.y) := by
  intro W
  refine calls_enter Tryz.func168 rfl rfl rfl ?_
  refine zA ?_
  refine zB ?_
  refine wl_box rfl rfl rfl rfl ?_
  intro
  refine wl_alloc (z := spot 0 0) rfl rfl rfl (fun W => by kernel_rfl) fun b3 => ?_
  refine zC ?_
  refine zE ?_
  refine zA ?_
  refine zB ?_
  refine wl_pure Tryz.hT rfl rfl rfl ?_
  refine wl_loadBx 0 Tryz.hT rfl rfl rfl rfl rfl rfl rfl rfl ?_
  refine wl_pure Tryz.hT rfl rfl rfl ?_
  refine wl_loadBx 0 Tryz.hT rfl rfl rfl rfl rfl rfl rfl rfl ?_
  refine wl_build (spot 0 0) Tryz.hT rfl rfl rfl rfl rfl (fun W => by kernel_rfl) rfl rfl ?_
  refine wl_storeBx 1 Tryz.hT rfl rfl rfl rfl rfl rfl rfl rfl rfl rfl rfl ?_
  refine zC ?_
  refine zE ?_
  refine zO ?_
  exact ne_ret1 Tryz.hT rfl (.cell 1 rfl rfl rfl rfl rfl) () rfl trivial fun W _ => NewBx.nil _ _
theorem to_gives (x y u v : Int) : Gives Tryz.prog 169 [spot x y, spot u v] (spot (w64 (u - x)) (w64 (v-y))) := by
  intro W
  refine calls_enter Tryz.func169 rfl rfl rfl ?_
  refine zA ?_
  refine zB ?_
  refine wl_box rfl rfl rfl rfl ?_
  intro
  refine wl_box rfl rfl rfl rfl ?_
  intro
  refine wl_alloc (z := spot 0 0) rfl rfl rfl (fun W => by kernel_rfl) fun b3 => ?_
  refine zC ?_
  refine zE ?_
  refine zA ?_
  refine zB ?_
  refine wl_pure Tryz.hT rfl rfl rfl ?_
  refine wl_loadBx 1 Tryz.hT rfl rfl rfl rfl rfl rfl rfl rfl ?_
  refine wl_pure Tryz.hT rfl rfl rfl ?_
  refine wl_loadBx 0 Tryz.hT rfl rfl rfl rfl rfl rfl rfl rfl ?_
  iterate 2 refine wl_pure Tryz.hT rfl rfl rfl ?_
  refine wl_loadBx 1 Tryz.hT rfl rfl rfl rfl rfl rfl rfl rfl ?_
  refine wl_pure Tryz.hT rfl rfl rfl ?_
  refine wl_loadBx 0 Tryz.hT rfl rfl rfl rfl rfl rfl rfl rfl ?_
  refine wl_pure Tryz.hT rfl rfl rfl ?_
  refine wl_build (spot 0 0) Tryz.hT rfl rfl rfl rfl rfl (fun W => by kernel_rfl) rfl rfl ?_
  refine wl_storeBx 2 Tryz.hT rfl rfl rfl rfl rfl rfl rfl rfl rfl rfl rfl ?_
  refine zC ?_
  refine zE ?_
  refine zO ?_
  exact ne_ret1 Tryz.hT rfl (.cell 2 rfl rfl rfl rfl rfl) () rfl trivial fun W _ => NewBx.nil _ _
theorem cross_gives (x y u v : Int) : Gives Tryz.prog 234 [spot x y, spot u v] (.int .i64 (w64 (w64 (x*v) - w64 (y*u)))) := by
  intro W
  refine calls_enter Tryz.func234 rfl rfl rfl ?_
  refine zA ?_
  refine zB ?_
  refine wl_box rfl rfl rfl rfl ?_
  intro
  refine wl_box rfl rfl rfl rfl ?_
  intro
  refine wl_pure Tryz.hT rfl rfl rfl ?_
  refine zC ?_
  refine zE ?_
  refine zA ?_
  refine zB ?_
  refine wl_pure Tryz.hT rfl rfl rfl ?_
  refine wl_loadBx 0 Tryz.hT rfl rfl rfl rfl rfl rfl rfl rfl ?_
  refine wl_pure Tryz.hT rfl rfl rfl ?_
  refine wl_loadBx 1 Tryz.hT rfl rfl rfl rfl rfl rfl rfl rfl ?_
  iterate 2 refine wl_pure Tryz.hT rfl rfl rfl ?_
  refine wl_loadBx 0 Tryz.hT rfl rfl rfl rfl rfl rfl rfl rfl ?_
  refine wl_pure Tryz.hT rfl rfl rfl ?_
  refine wl_loadBx 1 Tryz.hT rfl rfl rfl rfl rfl rfl rfl rfl ?_
  iterate 3 refine wl_pure Tryz.hT rfl rfl rfl ?_
  refine zC ?_
  refine zE ?_
  refine zO ?_
  exact ne_ret1 Tryz.hT rfl (.tmp rfl) () rfl trivial fun W _ => NewBx.nil _ _
theorem way_gives (s t u : Sd) : Gives Tryz.prog 170 [arVal s t u] (spot (w64 (u.x-t.x)) (w64 (u.y-t.y))) := by
  intro W
  refine calls_enter Tryz.func170 rfl rfl rfl ?_
  refine zA ?_
  refine zB ?_
  refine wl_box rfl rfl rfl rfl ?_
  intro
  refine wl_alloc (z := spot 0 0) rfl rfl rfl (fun W => by kernel_rfl) fun b3 => ?_
  refine zC ?_
  refine zE ?_
  refine zA ?_
  refine zT Tryz.mixed (by kernel_rfl) ?_
  refine wq_pure Tryz.hT rfl rfl rfl ?_
  refine wq_loadBx 0 Tryz.hT rfl rfl rfl rfl rfl rfl rfl rfl ?_
  refine wq_call1 rfl rfl rfl rfl rfl rfl (by kernel_rfl) (fun W _ => corner_gives t W) ?_
  refine wq_pure Tryz.hT rfl rfl rfl ?_
  refine wq_loadBx 0 Tryz.hT rfl rfl rfl rfl rfl rfl rfl rfl ?_
  refine wq_call1 rfl rfl rfl rfl rfl rfl (by kernel_rfl) (fun W _ => corner_gives u W) ?_
  refine wq_call1 rfl rfl rfl rfl rfl rfl (by kernel_rfl) (fun W _ => to_gives t.x t.y u.x u.y W) ?_
  refine zD ?_
  refine wl_storeBx 1 Tryz.hT rfl rfl rfl rfl rfl rfl rfl rfl rfl rfl rfl ?_
  refine zC ?_
  refine zE ?_
  refine zO ?_
  exact ne_ret1 Tryz.hT rfl (.cell 1 rfl rfl rfl rfl rfl) () rfl trivial fun W _ => NewBx.nil _ _
theorem left_gives (s t u : Sd) : Gives Tryz.prog 175 [arVal s t u] (.bool (decide (w64 (w64 (w64 (t.x - s.x) * w64 (u.y-t.y)) - w64 (w64 (t.y-s.y) * w64 (u.x-t.x))) > 0))) := by
  intro W
  refine calls_enter Tryz.func175 rfl rfl rfl ?_
  refine zA ?_
  refine zB ?_
  refine wl_box rfl rfl rfl rfl ?_
  intro
  refine wl_pure Tryz.hT rfl rfl rfl ?_
  refine zC ?_
  refine zE ?_
  refine zA ?_
  refine zT Tryz.mixed (by kernel_rfl) ?_
  refine wq_pure Tryz.hT rfl rfl rfl ?_
  refine wq_loadBx 0 Tryz.hT rfl rfl rfl rfl rfl rfl rfl rfl ?_
  refine wq_call1 rfl rfl rfl rfl rfl rfl (by kernel_rfl) (fun W _ => corner_gives s W) ?_
  refine wq_pure Tryz.hT rfl rfl rfl ?_
  refine wq_loadBx 0 Tryz.hT rfl rfl rfl rfl rfl rfl rfl rfl ?_
  refine wq_call1 rfl rfl rfl rfl rfl rfl (by kernel_rfl) (fun W _ => corner_gives t W) ?_
  refine wq_call1 rfl rfl rfl rfl rfl rfl (by kernel_rfl) (fun W _ => to_gives s.x s.y t.x t.y W) ?_
  refine wq_loadBx 0 Tryz.hT rfl rfl rfl rfl rfl rfl rfl rfl ?_
  refine wq_call1 rfl rfl rfl rfl rfl rfl (by kernel_rfl) (fun W _ => way_gives s t u W) ?_
  refine wq_call1 rfl rfl rfl rfl rfl rfl (by kernel_rfl) (fun W _ => cross_gives _ _ _ _ W) ?_
  iterate 2 refine wq_pure Tryz.hT rfl rfl rfl ?_
  refine zD ?_
  refine zC ?_
  refine zE ?_
  refine zO ?_
  exact ne_ret1 Tryz.hT rfl (.tmp rfl) () rfl trivial fun W _ => NewBx.nil _ _
/-- A ring lies in memory: the value of its slice. -/
structure RingAt (W : World) (b off : Nat) (l : List Sd) : Prop where
  get : ∀ (i : Nat) (s : Sd), l[i]? = some s → RowAt W b (off + i * 7) s.cells
def RingP (W : World) (p : Option Addr) (l : List Sd) : Prop := l = [] ∨ ∃ b off, p = some ⟨b, off, none⟩ ∧ RingAt W b off l
theorem RingP.below {W W' : World} {p : Option Addr} {l : List Sd} {n : Nat} (h : RingP W p l) (hn : W.heap.size ≤ n) (hb : Below n W W') : RingP W' p l := by
  rcases h with h | ⟨b, off, h1, h2⟩
  · exact .inl h
  · exact .inr ⟨b, off, h1, ⟨fun i s hs => (h2.get i s hs).below hn hb⟩⟩
theorem RingP.hp {W0 W : World} {bxs : List Bx} {p : Option Addr} {l : List Sd} (h : RingP W0 p l) (hp : Hp W0 bxs W) : RingP W p l := h.below (Nat.le_refl _) hp.below
/-- A side of a ring, by its place. -/
def sd (l : List Sd) (i : Nat) : Sd := l.getD i default
theorem sd_get {l : List Sd} {i : Nat} (h : i < l.length) : l[i]? = some (sd l i) := by simp [sd, h]
theorem RingP.row {W : World} {p : Option Addr} {l : List Sd} (h : RingP W p l) {i : Nat} (hi : i < l.length) : ∃ b off, p = some ⟨b, off, none⟩ ∧ ∀ k, k < l.length → RowAt W b (off + k * 7) (sd l k).cells := by
  rcases h with rfl | ⟨b, off, h1, h2⟩
  · simp at hi
  · exact ⟨b, off, h1, fun k hk => h2.get k _ (sd_get hk)⟩
end Go.Proofs.YtlagebbefnnnnaaGreatDoor
namespace Go.Proofs.YtlagebbefnnnnaaGreatDoor
-- OLD
open Go Go.RowKit Go.Am
set_option maxRecDepth 10000
theorem sides_gives (p : Option Addr) (n cap : Nat) (W : World) : CallsR Tryz.prog 132 #[slv p n cap] W (fun b : Nat => .func (.func 198) #[] #[.pointer (some ⟨b, 0, none⟩)]) (fun _ => True) (fun b => [⟨b, 32, [slv p n cap], true, none⟩]) := by
  refine calls_enter (args := [slv p n cap]) Tryz.func132 rfl rfl rfl ?_
  refine zA ?_
  refine zB ?_
  refine wl_box rfl rfl rfl rfl ?_; intro b
  refine wl_pure Tryz.hT rfl rfl rfl ?_
  refine zC ?_
  refine zE ?_
  refine zA ?_
  refine zB ?_
  iterate 2 refine wl_pure Tryz.hT rfl rfl rfl ?_
  refine zC ?_
  refine zE ?_
  refine zO ?_
  exact ne_ret1 Tryz.hT rfl (.tmp rfl) b rfl trivial fun W hp => NewBx.of_hp hp
/-- The side, the one before it and the one behind it. -/
def prv (n i : Nat) : Nat := (i + n - 1) % n
def nxt (n i : Nat) : Nat := (i + 1) % n
abbrev encSide (l : List Sd) (k : Nat) : List Value := [.int .i64 k, arVal (sd l (prv l.length k)) (sd l k) (sd l (nxt l.length k))]
/-- What the iterator reads: its variable, and the ring. -/
structure SidesNeed (b : Nat) (p : Option Addr) (cap : Nat) (l : List Sd) (W : World) : Prop where
  var : RowAt W b 0 [slv p l.length cap]
  ring : RingP W p l
theorem sides_iter (b : Nat) (p : Option Addr) (cap : Nat) (l : List Sd) (hn : l.length < 4611686018427387904) :
    Iter Tryz.prog 198 [.pointer (some ⟨b, 0, none⟩)] l.length (encSide l) (SidesNeed b p cap l) := by
  refine ⟨fun y J Jx hNeed hdr hY W hJ => ?_⟩
  refine iter_enter (args := [.func (.yield y) #[] #[], .pointer (some ⟨b, 0, none⟩)]) (J0 := J 0) Tryz.func198 rfl rfl rfl hJ ?_
  refine zA ?_
  refine zB ?_
  refine wl_load rfl rfl rfl rfl (fun W hp => RowAt.load 0 Tryz.hT rfl ((fun W hp => (hNeed 0 W hp).var) W hp) rfl) ?_
  iterate 2 refine wl_pure Tryz.hT rfl rfl rfl ?_
  refine zC ?_
  refine zE ?_
  refine zA ?_
  refine zB ?_
  refine wl_load rfl rfl rfl rfl (fun W hp => RowAt.load 0 Tryz.hT rfl ((fun W hp => (hNeed 0 W hp).var) W hp) rfl) ?_
  iterate 2 refine wl_pure Tryz.hT rfl rfl rfl ?_
  refine zC ?_
  refine zE ?_
  refine zH ?_
  refine wc_loopA (X := Nat) (fun k => [(0, .func (.yield y) #[] #[]), (1, .pointer (some ⟨b, 0, none⟩)), (3, .int .i64 (l.length : Nat)), (8, .int .i64 (l.length : Nat)), (9, .int .i64 (k : Nat))]) J (fun k => k ≤ l.length) (fun k => l.length - k) 0 (Nat.zero_le _) ⟨rfl, rfl, rfl, rfl, rfl, trivial⟩ (fun W h => h) ?_
  intro k hk
  refine zA ?_
  refine zB ?_
  refine wl_pure Tryz.hT rfl rfl rfl ?_
  refine zC ?_
  refine zE ?_
  refine zA ?_
  refine wc_cond rfl ?_ ?_
  rotate_left
  · intro h
    refine zJ ?_
    iterate 2 refine zK ?_
    refine zL ?_
    have : k = l.length := by simp at h; omega
    subst this
    exact ne_iter rfl fun W h => h
  intro h
  have hk : k < l.length := by simp at h; omega
  clear h
  refine zI ?_
  refine zE ?_
  refine zA ?_
  refine zH ?_
  refine zA ?_
  refine zB ?_
  iterate 2 refine wl_pure Tryz.hT rfl rfl rfl ?_
  refine zC ?_
  refine zE ?_
  refine zA ?_
  have hz : (l.length : Int) ≠ 0 := by omega
  have e1 : (w64 (w64 ((k : Int) + (l.length : Int)) - 1)).tmod (l.length : Int) = ((prv l.length k : Nat) : Int) := by
    rw [w64_id (x := (k : Int) + l.length) (by omega) (by omega), w64_id (by omega) (by omega)]
    have : (k : Int) + l.length - 1 = ((k + l.length - 1 : Nat) : Int) := by omega
    rw [this]; rfl
  have e2 : (w64 ((k : Int) + 1)).tmod (l.length : Int) = ((nxt l.length k : Nat) : Int) := by
    rw [w64_id (x := (k : Int) + 1) (by omega) (by omega)]
    rfl
  have l1 : prv l.length k < l.length := Nat.mod_lt _ (by omega)
  have l2 : nxt l.length k < l.length := Nat.mod_lt _ (by omega)
  refine wc_draw 23 (hdr k) Tryz.mixed (by kernel_rfl) rfl ?_
  iterate 2 refine wq_pure Tryz.hT rfl rfl rfl ?_
  refine wq_load rfl rfl rfl rfl (fun W hp => RowAt.load 0 Tryz.hT rfl ((fun W hp => (hNeed k W hp).var) W hp) rfl) ?_
  iterate 5 refine wq_pure Tryz.hT rfl rfl rfl ?_
  refine wq_rem rfl rfl rfl rfl rfl hz ?_
  refine wq_upd 20 _ rfl (congrArg (Value.int .i64) e1) ?_
  obtain ⟨b2, off, rfl, hrow⟩ : ∃ b2 off, p = some ⟨b2, off, none⟩ ∧ ∀ i, i < l.length → ∀ W, J k W → RowAt W b2 (off + i * 7) (sd l i).cells := by
    obtain ⟨b2, off, e, _⟩ := (hNeed 0 W hJ).ring.row hk
    refine ⟨b2, off, e, fun i hi W hW => ?_⟩
    obtain ⟨b3, off3, e', h⟩ := (hNeed k W hW).ring.row hk
    rw [e] at e'
    cases e'
    exact h i hi
  refine wq_indexAddr Tryz.hT rfl rfl rfl rfl rfl rfl rfl (by omega) (by omega) ?_
  refine wq_load rfl rfl rfl rfl (fun W hp => RowAt.load 0 Tryz.hT rfl ((hrow _ l1) W hp) rfl) ?_
  refine wq_load rfl rfl rfl rfl (fun W hp => RowAt.load 0 Tryz.hT rfl ((fun W hp => (hNeed k W hp).var) W hp) rfl) ?_
  refine wq_pure Tryz.hT rfl rfl rfl ?_
  refine wq_indexAddr Tryz.hT rfl rfl rfl rfl rfl rfl rfl (by omega) (by omega) ?_
  refine wq_load rfl rfl rfl rfl (fun W hp => RowAt.load 0 Tryz.hT rfl ((hrow _ hk) W hp) rfl) ?_
  refine wq_load rfl rfl rfl rfl (fun W hp => RowAt.load 0 Tryz.hT rfl ((fun W hp => (hNeed k W hp).var) W hp) rfl) ?_
  iterate 3 refine wq_pure Tryz.hT rfl rfl rfl ?_
  refine wq_rem rfl rfl rfl rfl rfl hz ?_
  refine wq_upd 31 _ rfl (congrArg (Value.int .i64) e2) ?_
  refine wq_indexAddr Tryz.hT rfl rfl rfl rfl rfl rfl rfl (by omega) (by omega) ?_
  refine wq_load rfl rfl rfl rfl (fun W hp => RowAt.load 0 Tryz.hT rfl ((hrow _ l2) W hp) rfl) ?_
  refine wq_build (arVal default default default) Tryz.hT rfl rfl rfl rfl rfl (fun W => by kernel_rfl) rfl rfl ?_
  refine zD ?_
  refine wl_yield (A1 := J (k+1)) (A2 := Jx) rfl rfl rfl rfl rfl rfl (fun W hp => hY k W hk hp) ?_ ?_
  · refine wl_pure Tryz.hT rfl rfl rfl ?_
    refine zC ?_
    refine zE ?_
    refine zS rfl ?_
    refine zI ?_
    refine zN ?_
    refine zE ?_
    refine zB ?_
    iterate 2 refine wl_pure Tryz.hT rfl rfl rfl ?_
    refine zC ?_
    exact ne_loopA (k + 1) hk (by omega) ⟨rfl, rfl, rfl, rfl, congrArg (fun z => some (Value.int .i64 z)) (wrap_id (x := (k : Int) + 1) (by omega) (by omega)), trivial⟩ (fun W h => h)
  · refine wl_pure Tryz.hT rfl rfl rfl ?_
    refine zC ?_
    refine zE ?_
    refine zR rfl ?_
    refine zO ?_
    refine zQ ?_
    iterate 2 refine zP ?_
    refine zQ ?_
    exact ne_iter_stop rfl (fun W h => h)
end Go.Proofs.YtlagebbefnnnnaaGreatDoor
namespace Go.Proofs.YtlagebbefnnnnaaGreatDoor
-- OLD
open Go Go.RowKit Go.Am
set_option maxRecDepth 10000
-- BOXES 6
abbrev boxV (a b c d : Int) : Value := .agg #[.int .i64 a, .int .i64 b, .int .i64 c, .int .i64 d]
theorem boxOf_gives (s t u : Sd) : Gives Tryz.prog 171 [arVal s t u] (boxV (if u.x < t.x then u.x else t.x) (if u.y < t.y then u.y else t.y) (if u.x > t.x then u.x else t.x) (if u.y > t.y then u.y else t.y)) := by
  intro W
  refine calls_enter Tryz.func171 rfl rfl rfl ?_
  refine zA ?_
  refine zB ?_
  refine wl_box rfl rfl rfl rfl ?_
  intro
  refine wl_alloc (z := boxV 0 0 0 0) rfl rfl rfl (fun W => by kernel_rfl) fun b2 => ?_
  refine wl_nil ?_
  refine ne_then ?_
  refine wc_seq ?_
  refine wc_lateS (X := Nat × Nat) (fun x => [(2, .pointer (some ⟨b2, 0, none⟩)), (3, .pointer (some ⟨x.1, 0, none⟩)), (4, .pointer (some ⟨x.2, 0, none⟩))])
    (fun x => [⟨b2, 213, (boxV 0 0 0 0).cells.toList, true, none⟩, ⟨x.1, 147, (spot t.x t.y).cells.toList, true, none⟩, ⟨x.2, 147, (spot u.x u.y).cells.toList, true, none⟩]) 4 Tryz.mixed (by kernel_rfl) ?_ ?_
  · refine wq_pure Tryz.hT rfl rfl rfl ?_
    refine wq_loadBx 0 Tryz.hT rfl rfl rfl rfl rfl rfl rfl rfl ?_
    refine wq_call1 rfl rfl rfl rfl rfl rfl (by kernel_rfl) (fun W _ => corner_gives t W) ?_
    refine wq_pure Tryz.hT rfl rfl rfl ?_
    refine wq_loadBx 0 Tryz.hT rfl rfl rfl rfl rfl rfl rfl rfl ?_
    refine wq_call1 rfl rfl rfl rfl rfl rfl (by kernel_rfl) (fun W _ => corner_gives u W) ?_
    refine zG ?_
    refine wt_step rfl rfl (by ((repeat (first | refine Weak.same ?_ | refine Weak.off rfl ?_)); exact trivial)) ?_
    refine RS.cons ?_ (RS.cons ?_ RS.nil)
    · refine wl_alloc (z := spot 0 0) rfl rfl rfl (fun W => by kernel_rfl) fun b3 => ?_
      refine zC ?_
      refine zF ?_
      refine wt_step rfl rfl (by ((repeat (first | refine Weak.same ?_ | refine Weak.off rfl ?_)); exact trivial)) ?_
      refine RS.cons ?_ RS.nil
      refine wl_alloc (z := spot 0 0) rfl rfl rfl (fun W => by kernel_rfl) fun b4 => ?_
      refine zC ?_
      refine zF ?_
      refine wt_step rfl rfl (by ((repeat (first | refine Weak.same ?_ | refine Weak.off rfl ?_)); exact trivial)) ?_
      refine RS.cons ?_ RS.nil
      refine wl_storeBx 2 Tryz.hT rfl rfl rfl rfl rfl rfl rfl rfl rfl rfl rfl ?_
      refine zC ?_
      refine zF ?_
      refine wt_step rfl rfl (by ((repeat (first | refine Weak.same ?_ | refine Weak.off rfl ?_)); exact trivial)) ?_
      refine RS.cons ?_ RS.nil
      refine wl_storeBx 3 Tryz.hT rfl rfl rfl rfl rfl rfl rfl rfl rfl rfl rfl ?_
      refine zC ?_
      refine zF ?_
      refine wt_done rfl (by ((repeat (first | refine Weak.same ?_ | refine Weak.off rfl ?_)); exact trivial)) ?_
      exact ne_late (b3, b4) ⟨rfl, rfl, rfl, trivial⟩ [1, 2, 3] (by decide) rfl
    · refine wl_alloc (z := spot 0 0) rfl rfl rfl (fun W => by kernel_rfl) fun b4 => ?_
      refine zC ?_
      refine zF ?_
      refine wt_step rfl rfl (by ((repeat (first | refine Weak.same ?_ | refine Weak.off rfl ?_)); exact trivial)) ?_
      refine RS.cons ?_ RS.nil
      refine wl_alloc (z := spot 0 0) rfl rfl rfl (fun W => by kernel_rfl) fun b3 => ?_
      refine zC ?_
      refine zF ?_
      refine wt_step rfl rfl (by ((repeat (first | refine Weak.same ?_ | refine Weak.off rfl ?_)); exact trivial)) ?_
      refine RS.cons ?_ RS.nil
      refine wl_storeBx 3 Tryz.hT rfl rfl rfl rfl rfl rfl rfl rfl rfl rfl rfl ?_
      refine zC ?_
      refine zF ?_
      refine wt_step rfl rfl (by ((repeat (first | refine Weak.same ?_ | refine Weak.off rfl ?_)); exact trivial)) ?_
      refine RS.cons ?_ RS.nil
      refine wl_storeBx 2 Tryz.hT rfl rfl rfl rfl rfl rfl rfl rfl rfl rfl rfl ?_
      refine zC ?_
      refine zF ?_
      refine wt_done rfl (by ((repeat (first | refine Weak.same ?_ | refine Weak.off rfl ?_)); exact trivial)) ?_
      exact ne_late (b3, b4) ⟨rfl, rfl, rfl, trivial⟩ [1, 3, 2] (by decide) rfl
  · rintro ⟨b3, b4⟩
    refine zE ?_
    refine zA ?_
    refine zB ?_
    refine wl_pure Tryz.hT rfl rfl rfl ?_
    refine wl_loadBx 1 Tryz.hT rfl rfl rfl rfl rfl rfl rfl rfl ?_
    refine wl_pure Tryz.hT rfl rfl rfl ?_
    refine wl_loadBx 2 Tryz.hT rfl rfl rfl rfl rfl rfl rfl rfl ?_
    iterate 2 refine wl_pure Tryz.hT rfl rfl rfl ?_
    refine wl_loadBx 1 Tryz.hT rfl rfl rfl rfl rfl rfl rfl rfl ?_
    refine wl_pure Tryz.hT rfl rfl rfl ?_
    refine wl_loadBx 2 Tryz.hT rfl rfl rfl rfl rfl rfl rfl rfl ?_
    refine wl_pure Tryz.hT rfl rfl rfl ?_
    refine wl_build (spot 0 0) Tryz.hT rfl rfl rfl rfl rfl (fun W => by kernel_rfl) rfl rfl ?_
    refine wl_pure Tryz.hT rfl rfl rfl ?_
    refine wl_loadBx 1 Tryz.hT rfl rfl rfl rfl rfl rfl rfl rfl ?_
    refine wl_pure Tryz.hT rfl rfl rfl ?_
    refine wl_loadBx 2 Tryz.hT rfl rfl rfl rfl rfl rfl rfl rfl ?_
    iterate 2 refine wl_pure Tryz.hT rfl rfl rfl ?_
    refine wl_loadBx 1 Tryz.hT rfl rfl rfl rfl rfl rfl rfl rfl ?_
    refine wl_pure Tryz.hT rfl rfl rfl ?_
    refine wl_loadBx 2 Tryz.hT rfl rfl rfl rfl rfl rfl rfl rfl ?_
    refine wl_pure Tryz.hT rfl rfl rfl ?_
    refine wl_build (spot 0 0) Tryz.hT rfl rfl rfl rfl rfl (fun W => by kernel_rfl) rfl rfl ?_
    refine wl_build (boxV 0 0 0 0) Tryz.hT rfl rfl rfl rfl rfl (fun W => by kernel_rfl) rfl rfl ?_
    refine wl_storeBx 0 Tryz.hT rfl rfl rfl rfl rfl rfl rfl rfl rfl rfl rfl ?_
    refine zC ?_
    refine zE ?_
    refine zO ?_
    exact ne_ret1 Tryz.hT rfl (.cell 0 rfl rfl rfl rfl rfl) () rfl trivial fun W _ => NewBx.nil _ _
theorem meets_gives (a b c d a' b' c' d' : Int) : Gives Tryz.prog 172 [boxV a b c d, boxV a' b' c' d'] (.bool (decide (a ≤ c') && decide (a' ≤ c) && decide (b ≤ d') && decide (b' ≤ d))) := by
  intro W
  refine calls_enter Tryz.func172 rfl rfl rfl ?_
  refine zA ?_
  refine zB ?_
  refine wl_box rfl rfl rfl rfl ?_
  intro
  refine wl_box rfl rfl rfl rfl ?_
  intro
  refine wl_pure Tryz.hT rfl rfl rfl ?_
  refine zC ?_
  refine zE ?_
  refine zA ?_
  refine zB ?_
  iterate 2 refine wl_pure Tryz.hT rfl rfl rfl ?_
  refine wl_loadBx 0 Tryz.hT rfl rfl rfl rfl rfl rfl rfl rfl ?_
  iterate 2 refine wl_pure Tryz.hT rfl rfl rfl ?_
  refine wl_loadBx 1 Tryz.hT rfl rfl rfl rfl rfl rfl rfl rfl ?_
  iterate 2 refine wl_pure Tryz.hT rfl rfl rfl ?_
  refine wl_part 12 rfl (fun h12 => ?_) (fun h12 => ?_)
  · refine wl_pure Tryz.hT rfl rfl rfl ?_
    refine wl_pure Tryz.hT rfl rfl rfl ?_
    refine wl_loadBx 1 Tryz.hT rfl rfl rfl rfl rfl rfl rfl rfl ?_
    iterate 2 refine wl_pure Tryz.hT rfl rfl rfl ?_
    refine wl_loadBx 0 Tryz.hT rfl rfl rfl rfl rfl rfl rfl rfl ?_
    iterate 3 refine wl_pure Tryz.hT rfl rfl rfl ?_
    refine wl_part 21 rfl (fun h21 => ?_) (fun h21 => ?_)
    · refine wl_pure Tryz.hT rfl rfl rfl ?_
      refine wl_pure Tryz.hT rfl rfl rfl ?_
      refine wl_loadBx 0 Tryz.hT rfl rfl rfl rfl rfl rfl rfl rfl ?_
      iterate 2 refine wl_pure Tryz.hT rfl rfl rfl ?_
      refine wl_loadBx 1 Tryz.hT rfl rfl rfl rfl rfl rfl rfl rfl ?_
      iterate 3 refine wl_pure Tryz.hT rfl rfl rfl ?_
      refine wl_part 30 rfl (fun h30 => ?_) (fun h30 => ?_)
      · refine wl_pure Tryz.hT rfl rfl rfl ?_
        refine wl_pure Tryz.hT rfl rfl rfl ?_
        refine wl_loadBx 1 Tryz.hT rfl rfl rfl rfl rfl rfl rfl rfl ?_
        iterate 2 refine wl_pure Tryz.hT rfl rfl rfl ?_
        refine wl_loadBx 0 Tryz.hT rfl rfl rfl rfl rfl rfl rfl rfl ?_
        iterate 3 refine wl_pure Tryz.hT rfl rfl rfl ?_
        refine zC ?_
        refine zE ?_
        refine zO ?_
        exact ne_ret1 Tryz.hT rfl (.tmp rfl) () (by simp_all <;> (intros; omega)) trivial fun W _ => NewBx.nil _ _
      · refine wl_skip rfl rfl ?_
        iterate 6 refine wl_skip rfl rfl ?_
        iterate 2 refine wl_pure Tryz.hT rfl rfl rfl ?_
        refine zC ?_
        refine zE ?_
        refine zO ?_
        exact ne_ret1 Tryz.hT rfl (.tmp rfl) () (by simp_all <;> (intros; omega)) trivial fun W _ => NewBx.nil _ _
    · refine wl_skip rfl rfl ?_
      iterate 6 refine wl_skip rfl rfl ?_
      iterate 2 refine wl_pure Tryz.hT rfl rfl rfl ?_
      iterate 7 refine wl_skip rfl rfl ?_
      iterate 2 refine wl_pure Tryz.hT rfl rfl rfl ?_
      refine zC ?_
      refine zE ?_
      refine zO ?_
      exact ne_ret1 Tryz.hT rfl (.tmp rfl) () (by simp_all <;> (intros; omega)) trivial fun W _ => NewBx.nil _ _
  · refine wl_skip rfl rfl ?_
    iterate 6 refine wl_skip rfl rfl ?_
    iterate 2 refine wl_pure Tryz.hT rfl rfl rfl ?_
    iterate 7 refine wl_skip rfl rfl ?_
    iterate 2 refine wl_pure Tryz.hT rfl rfl rfl ?_
    iterate 7 refine wl_skip rfl rfl ?_
    iterate 2 refine wl_pure Tryz.hT rfl rfl rfl ?_
    refine zC ?_
    refine zE ?_
    refine zO ?_
    exact ne_ret1 Tryz.hT rfl (.tmp rfl) () (by simp_all <;> (intros; omega)) trivial fun W _ => NewBx.nil _ _
end Go.Proofs.YtlagebbefnnnnaaGreatDoor
namespace Go.Proofs.YtlagebbefnnnnaaGreatDoor
-- OLD
open Go Go.RowKit Go.Am
set_option maxRecDepth 10000
-- BOXES 6
theorem SidesNeed.mk' {W0 W : World} {bxs : List Bx} {b : Nat} {p : Option Addr} {cap : Nat} {l : List Sd} (h : RingP W0 p l) (hp : Hp W0 bxs W) (k : Nat) (hk : nth bxs k = some ⟨b, 32, [slv p l.length cap], true, none⟩) : SidesNeed b p cap l W :=
  ⟨RowAt.of_bx hp k hk rfl, h.hp hp⟩
/-- The sum of the first k cross products, as the program has it. -/
def areaUp (l : List Sd) : Nat → Int
  | 0 => 0
  | k + 1 => w64 (areaUp l k + w64 (w64 ((sd l k).x * (sd l (nxt l.length k)).y) - w64 ((sd l k).y * (sd l (nxt l.length k)).x)))
theorem area_gives (W : World) (p : Option Addr) (cap : Nat) (l : List Sd) (hn : l.length < 4611686018427387904) (hR : RingP W p l) :
    CallsR Tryz.prog 173 #[slv p l.length cap] W (fun _ : Unit => .int .i64 (areaUp l l.length)) (fun _ => True) (fun _ => []) := by
  refine calls_enter (args := [slv p l.length cap]) Tryz.func173 rfl rfl rfl ?_
  refine zA ?_
  refine zB ?_
  refine wl_pure Tryz.hT rfl rfl rfl ?_
  refine zC ?_
  refine zE ?_
  refine zA ?_
  refine zB ?_
  refine wl_alloc (z := .int .i64 0) rfl rfl rfl (fun W => by kernel_rfl) fun b3 => ?_
  refine wl_storeBx 0 Tryz.hT rfl rfl rfl rfl rfl rfl rfl rfl rfl rfl rfl ?_
  refine zC ?_
  refine zE ?_
  iterate 2 refine zA ?_
  refine zB ?_
  refine wl_pure Tryz.hT rfl rfl rfl ?_
  refine wl_call (X := Nat) rfl rfl rfl rfl rfl rfl (by kernel_rfl) (fun W _ => sides_gives p l.length cap W) ?_
  intro b _
  refine zC ?_
  refine zE ?_
  refine zH ?_
  refine wc_range (X := Nat) (fun k => [⟨b3, 3, [.int .i64 (areaUp l k)], true, none⟩, ⟨b, 32, [slv p l.length cap], true, none⟩]) (fun k x => x = k) (fun _ _ => False) 0 rfl (by kernel_rfl) (sides_iter b p cap l hn) (fun _ => rfl) rfl [] rfl (fun k x W _ hp => SidesNeed.mk' hR hp 1 rfl) ?_ ?_ (fun _ _ _ _ _ h => h.elim)
  · intro k x d L rec hk hx hrec
    subst hx
    refine zB ?_
    refine wl_alloc (z := arVal default default default) rfl rfl rfl (fun W => by kernel_rfl) fun b5 => ?_
    refine wl_storeBx 4 Tryz.hT rfl rfl rfl rfl rfl rfl rfl rfl rfl rfl rfl ?_
    refine zC ?_
    refine ne_begin 3 hrec rfl ?_
    refine zH ?_
    refine zT Tryz.mixed (by kernel_rfl) ?_
    refine wq_loadBx 0 Tryz.hT rfl rfl rfl rfl rfl rfl rfl rfl ?_
    refine wq_pure Tryz.hT rfl rfl rfl ?_
    refine wq_loadBx 4 Tryz.hT rfl rfl rfl rfl rfl rfl rfl rfl ?_
    refine wq_call1 rfl rfl rfl rfl rfl rfl (by kernel_rfl) (fun W _ => corner_gives (sd l x) W) ?_
    refine wq_pure Tryz.hT rfl rfl rfl ?_
    refine wq_loadBx 4 Tryz.hT rfl rfl rfl rfl rfl rfl rfl rfl ?_
    refine wq_call1 rfl rfl rfl rfl rfl rfl (by kernel_rfl) (fun W _ => corner_gives (sd l (nxt l.length x)) W) ?_
    refine wq_call1 rfl rfl rfl rfl rfl rfl (by kernel_rfl) (fun W _ => cross_gives _ _ _ _ W) ?_
    refine wq_pure Tryz.hT rfl rfl rfl ?_
    refine zD ?_
    refine wl_storeBx 0 Tryz.hT rfl rfl rfl rfl rfl rfl rfl rfl rfl rfl rfl ?_
    refine zC ?_
    refine zN ?_
    exact ne_round 3 (x + 1) hrec rfl rfl [_] rfl
  · intro x d L rec hx
    subst hx
    refine zN ?_
    refine zE ?_
    refine zA ?_
    refine zB ?_
    refine wl_loadBx 0 Tryz.hT rfl rfl rfl rfl rfl rfl rfl rfl ?_
    refine wl_pure Tryz.hT rfl rfl rfl ?_
    refine zC ?_
    refine zE ?_
    refine zO ?_
    refine ne_mark 2 rfl ?_
    exact ne_ret1 Tryz.hT rfl (.tmp rfl) () rfl trivial fun W _ => NewBx.nil _ _
end Go.Proofs.YtlagebbefnnnnaaGreatDoor
namespace Go.Proofs.YtlagebbefnnnnaaGreatDoor
-- OLD
open Go Go.RowKit Go.Am
set_option maxRecDepth 10000
-- BOXES 8
-- EQB 4
/-- Rings in memory. -/
structure RingsAt (W : World) (b off : Nat) (rs : List (List Sd)) : Prop where
  get : ∀ (i : Nat) (l : List Sd), rs[i]? = some l → ∃ p cap, RowAt W b (off + i * 1) [slv p l.length cap] ∧ RingP W p l
def RingsP (W : World) (p : Option Addr) (rs : List (List Sd)) : Prop := rs = [] ∨ ∃ b off, p = some ⟨b, off, none⟩ ∧ RingsAt W b off rs
def rg (rs : List (List Sd)) (i : Nat) : List Sd := rs.getD i []
theorem rg_get {rs : List (List Sd)} {i : Nat} (h : i < rs.length) : rs[i]? = some (rg rs i) := by simp [rg, h]
theorem RingsP.row {W : World} {p : Option Addr} {rs : List (List Sd)} (h : RingsP W p rs) {i : Nat} (hi : i < rs.length) :
    ∃ b off, p = some ⟨b, off, none⟩ ∧ ∀ k, k < rs.length → ∃ q cap, RowAt W b (off + k * 1) [slv q (rg rs k).length cap] ∧ RingP W q (rg rs k) := by
  rcases h with rfl | ⟨b, off, h1, h2⟩
  · simp at hi
  · exact ⟨b, off, h1, fun k hk => h2.get k _ (rg_get hk)⟩
theorem RingsP.below {W W' : World} {p : Option Addr} {rs : List (List Sd)} {n : Nat} (h : RingsP W p rs) (hn : W.heap.size ≤ n) (hb : Below n W W') : RingsP W' p rs := by
  rcases h with h | ⟨b, off, h1, h2⟩
  · exact .inl h
  · refine .inr ⟨b, off, h1, ⟨fun i l hl => ?_⟩⟩
    obtain ⟨q, cap, h3, h4⟩ := h2.get i l hl
    exact ⟨q, cap, h3.below hn hb, h4.below hn hb⟩
end Go.Proofs.YtlagebbefnnnnaaGreatDoor
namespace Go.Proofs.YtlagebbefnnnnaaGreatDoor
open Go Go.RowKit Go.Am
set_option maxRecDepth 10000
-- BOXES 3
theorem grow_gives (W : World) (m : Nat) (hm : m < 1099511627776) : CallsR Tryz.prog 131 #[.slice none 0 0, .int .i64 (m : Nat)] W (fun V : Vec => V.val 0) (fun V => V.OK 7 0 [] ∧ (0 < m → V.p ≠ none)) (fun V => [V.bx 42 []]) := by
  refine calls_enter (args := [.slice none 0 0, .int .i64 (m : Nat)]) Tryz.func131 rfl rfl rfl ?_
  refine zA ?_
  refine zB ?_
  refine wl_pure Tryz.hT rfl rfl rfl ?_
  refine wl_nil ?_
  refine zE ?_
  iterate 2 refine zA ?_
  refine zB ?_
  iterate 2 refine wl_pure Tryz.hT rfl rfl rfl ?_
  refine wl_nil ?_
  refine zE ?_
  refine zS rfl ?_
  refine zI ?_
  refine zE ?_
  iterate 2 refine zA ?_
  refine zB ?_
  iterate 8 refine wl_pure Tryz.hT rfl rfl rfl ?_
  refine wl_nil ?_
  refine zE ?_
  refine zA ?_
  refine zB ?_
  iterate 2 refine wl_pure Tryz.hT rfl rfl rfl ?_
  refine wl_nil ?_
  refine zE ?_
  have e14 : w64 ((m : Int) - w64 (0 - 0)) = m := by
    have : w64 (0 - 0) = 0 := rfl
    rw [this]; exact (w64_id (by omega) (by omega)).trans (by omega)
  refine wc_upd 16 _ rfl (show Value.bool (decide (w64 ((m : Int) - w64 (0 - 0)) > 0)) = .bool (decide (0 < m)) by rw [e14]; congr 1; simp) ?_
  refine wc_cond rfl (fun h => ?_) (fun h => ?_)
  · have h : 0 < m := by simpa using h
    refine zB ?_
    iterate 3 refine wl_pure Tryz.hT rfl rfl rfl ?_
    refine wl_slice_h 0 Tryz.hT rfl rfl rfl rfl rfl rfl rfl rfl (Nat.le_refl _) ?_
    refine wl_pure Tryz.hT rfl rfl rfl ?_
    refine wl_appendZeros Tryz.vec32 (ku := .i64) (by kernel_rfl) m rfl rfl rfl rfl rfl rfl rfl rfl e14 h (by simp only [maxLen]; omega) (by omega) ?_
    intro V hV hp hj
    iterate 2 refine wl_pure Tryz.hT rfl rfl rfl ?_
    obtain ⟨p, cap, junk⟩ := V
    cases p with
    | none => exact absurd rfl hp
    | some g =>
    refine wl_slice_h (a := some ⟨g, 0, none⟩) (len := m) (cap := cap) 0 Tryz.hT rfl rfl rfl rfl rfl rfl rfl rfl (Nat.zero_le _) ?_
    refine wl_pure Tryz.hT rfl rfl rfl ?_
    refine wl_nil ?_
    refine zE ?_
    refine zA ?_
    refine zB ?_
    iterate 2 refine wl_pure Tryz.hT rfl rfl rfl ?_
    refine wl_nil ?_
    refine zE ?_
    refine zO ?_
    obtain ⟨h1, h2, h3⟩ := hV.cap (by simp)
    refine ne_ret1 Tryz.hT rfl (.tmp rfl) (⟨some g, cap, repL [.int .i64 0, .int .i64 0, .int .i64 0, .int .i64 0, .bool false, .int .i64 0, .int .i64 0] m ++ junk⟩ : Vec) rfl ⟨⟨rfl, (fun h => by cases h), fun _ => ⟨Nat.zero_le _, h2, ?_⟩⟩, fun _ => by simp⟩ fun W hp => NewBx.of_hp1 hp 0 rfl
    show 0 + (repL _ m ++ junk).length = cap * 7
    rw [List.length_append, Nat.zero_add]
    exact h3
  · have h : m = 0 := by simp at h; omega
    subst h
    refine zI ?_
    refine zE ?_
    refine zA ?_
    refine zB ?_
    iterate 2 refine wl_pure Tryz.hT rfl rfl rfl ?_
    refine wl_nil ?_
    refine zE ?_
    refine zO ?_
    exact ne_ret1 Tryz.hT rfl (.tmp rfl) Vec.empty rfl ⟨Vec.OK.empty 7, fun h => absurd h (Nat.lt_irrefl _)⟩ fun W hp => Own.one (fun p hp => by cases hp) List.nodup_nil
/-- The cells of sides in a row. -/
def cellsOf (l : List Sd) : List Value := l.flatMap Sd.cells
theorem cellsOf_append (l m : List Sd) : cellsOf (l ++ m) = cellsOf l ++ cellsOf m := List.flatMap_append
theorem cellsOf_length : ∀ l : List Sd, (cellsOf l).length = l.length * 7
  | [] => rfl
  | s :: l => by
    show (s.cells ++ cellsOf l).length = _
    rw [List.length_append, cellsOf_length l, List.length_cons]
    show 7 + l.length * 7 = (l.length + 1) * 7
    omega
theorem cellsOf_get : ∀ (l : List Sd) (i : Nat) (s : Sd), l[i]? = some s → ∀ j, j < 7 → (cellsOf l)[i * 7 + j]? = s.cells[j]?
  | [], i, s, h, _, _ => by simp at h
  | t :: l, 0, s, h, j, hj => by
    obtain rfl : t = s := by simpa using h
    show (t.cells ++ cellsOf l)[0 * 7 + j]? = _
    rw [Nat.zero_mul, Nat.zero_add, List.getElem?_append_left (show j < t.cells.length from hj)]
  | t :: l, i + 1, s, h, j, hj => by
    show (t.cells ++ cellsOf l)[(i + 1) * 7 + j]? = _
    rw [List.getElem?_append_right (show t.cells.length ≤ (i + 1) * 7 + j by show 7 ≤ _; omega)]
    show (cellsOf l)[(i + 1) * 7 + j - 7]? = _
    rw [show (i + 1) * 7 + j - 7 = i * 7 + j by omega]
    exact cellsOf_get l i s (by simpa using h) j hj
theorem cellsOf_one : ∀ l : List Sd, ∀ u ∈ cellsOf l, u.oneCell' = true := fun l u hu => by
  obtain ⟨s, _, h⟩ := List.mem_flatMap.1 hu
  simp at h
  rcases h with rfl | rfl | rfl | rfl | rfl | rfl | rfl <;> rfl
/-- A ring of sides in a row of known cells. -/
theorem RingAt.of_cells {W : World} {b off : Nat} {l : List Sd} (hlt : b < W.heap.size) (h : ∀ j u, (cellsOf l)[j]? = some u → W.cell? ⟨b, off + j, none⟩ = some u) : RingAt W b off l := by
  refine ⟨fun i s hs => ⟨hlt, fun j u hj => ?_⟩⟩
  have hj' : j < 7 := (List.getElem?_eq_some_iff.1 hj).1
  have h1 := cellsOf_get l i s hs j hj'
  rw [hj] at h1
  rw [Nat.add_assoc]
  exact h _ _ h1
theorem RingAt.cells {W : World} {b off : Nat} {l : List Sd} (h : RingAt W b off l) : ∀ j u, (cellsOf l)[j]? = some u → W.cell? ⟨b, off + j, none⟩ = some u := by
  intro j u hj
  have hlt : j < l.length * 7 := by rw [← cellsOf_length]; exact (List.getElem?_eq_some_iff.1 hj).1
  have hi : j / 7 < l.length := by omega
  have h1 := cellsOf_get l (j / 7) _ (List.getElem?_eq_getElem hi) (j % 7) (Nat.mod_lt _ (by omega))
  have e : j / 7 * 7 + j % 7 = j := by omega
  rw [e, hj] at h1
  have h2 := (h.get (j / 7) _ (List.getElem?_eq_getElem hi)).get (j % 7) u h1.symm
  rw [Nat.add_assoc, e] at h2
  exact h2
/-- A vector of sides is a ring in memory. -/
theorem Vec.ring {V : Vec} {l : List Sd} (hV : V.OK 7 l.length (cellsOf l)) : ∃ p cap, V.val l.length = slv p l.length cap ∧ ∀ {W0 W : World} {bxs : List Bx}, Hp W0 bxs W → ∀ k, nth bxs k = some (V.bx 42 (cellsOf l)) → RingP W p l := by
  obtain ⟨p, cap, junk⟩ := V
  cases p with
  | none =>
    have h0 := hV.nil rfl
    refine ⟨none, 0, by rw [h0]; rfl, fun _ _ _ => .inl (List.length_eq_zero_iff.1 h0)⟩
  | some g =>
    refine ⟨some ⟨g, 0, none⟩, cap, rfl, fun hp k hk => .inr ⟨g, 0, rfl, RingAt.of_cells (RowAt.of_bx hp k hk rfl).lt fun j u hj => ?_⟩⟩
    refine (RowAt.of_bx hp k hk rfl).get j u ?_
    show (cellsOf l ++ junk)[j]? = some u
    rw [List.getElem?_append_left (List.getElem?_eq_some_iff.1 hj).1]
    exact hj
def tot (rs : List (List Sd)) : Nat := (rs.map List.length).sum
theorem flat_len (rs : List (List Sd)) : rs.flatten.length = tot rs := by simp [tot, List.length_flatten]
theorem take_flat {rs : List (List Sd)} {k : Nat} (hk : k < rs.length) : (rs.take (k + 1)).flatten = (rs.take k).flatten ++ rg rs k := by
  rw [List.take_add_one, rg_get hk]; simp
theorem tot_take_le (rs : List (List Sd)) (k : Nat) : tot (rs.take k) ≤ tot rs := by
  conv => rhs; rw [← List.take_append_drop k rs]
  unfold tot
  rw [List.map_append, List.sum_append]; omega
theorem tot_take_succ {rs : List (List Sd)} {k : Nat} (hk : k < rs.length) : tot (rs.take (k + 1)) = tot (rs.take k) + (rg rs k).length := by
  rw [← flat_len, ← flat_len, take_flat hk, List.length_append]
set_option maxHeartbeats 4000000 in
theorem concat_gives (W : World) (p : Option Addr) (cap : Nat) (rs : List (List Sd)) (hn : rs.length < 4611686018427387904) (hT : tot rs < 1099511627776) (hR : RingsP W p rs) (hne : ∀ l ∈ rs, l ≠ []) :
    CallsR Tryz.prog 54 #[slv p rs.length cap] W (fun V : Vec => V.val rs.flatten.length) (fun V => V.OK 7 rs.flatten.length (cellsOf rs.flatten)) (fun V => [V.bx 42 (cellsOf rs.flatten)]) := by
  refine calls_enter (args := [slv p rs.length cap]) Tryz.func54 rfl rfl rfl ?_
  refine zA ?_
  refine zB ?_
  refine wl_pure Tryz.hT rfl rfl rfl ?_
  refine wl_nil ?_
  refine zE ?_
  refine zA ?_
  refine zB ?_
  refine wl_pure Tryz.hT rfl rfl rfl ?_
  refine wl_nil ?_
  refine zE ?_
  iterate 2 refine zA ?_
  refine zB ?_
  iterate 3 refine wl_pure Tryz.hT rfl rfl rfl ?_
  refine wl_nil ?_
  refine zE ?_
  refine zH ?_
  refine wc_loop (X := Nat) (fun k => [(0, slv p rs.length cap), (3, .int .i64 (tot (rs.take k) : Nat)), (9, slv p rs.length cap), (10, .int .i64 (rs.length : Nat)), (11, .int .i64 (k : Nat))]) (fun _ => [])
    (fun k => k ≤ rs.length) (fun k => rs.length - k) 0 (Nat.zero_le _) ⟨rfl, rfl, rfl, rfl, rfl, trivial⟩ [] rfl ?_
  intro k hk
  refine zA ?_
  refine zB ?_
  refine wl_pure Tryz.hT rfl rfl rfl ?_
  refine wl_nil ?_
  refine zE ?_
  refine zA ?_
  refine wc_cond rfl (fun h => ?_) (fun h => ?_)
  · have hk : k < rs.length := by simp at h; omega
    clear h
    obtain ⟨b, off, rfl, hrow⟩ := hR.row hk
    obtain ⟨q, cap2, hq1, hq2⟩ := hrow k hk
    refine zI ?_
    refine zE ?_
    refine zA ?_
    refine zH ?_
    refine zA ?_
    refine zB ?_
    refine wl_indexAddr Tryz.hT rfl rfl rfl rfl rfl rfl rfl (by omega) (by omega) ?_
    refine wl_load rfl rfl rfl rfl (fun W hp => RowAt.load 0 Tryz.hT rfl ((fun W hp => hq1.hp hp) W hp) rfl) ?_
    refine wl_pure Tryz.hT rfl rfl rfl ?_
    refine wl_nil ?_
    refine zE ?_
    refine zA ?_
    refine zB ?_
    iterate 5 refine wl_pure Tryz.hT rfl rfl rfl ?_
    refine wl_nil ?_
    have hs : w64 ((tot (rs.take k) : Nat) + ((rg rs k).length : Nat)) = (tot (rs.take (k + 1)) : Nat) := by
      have h1 := tot_take_succ hk
      have h2 := tot_take_le rs (k + 1)
      rw [w64_id (by omega) (by omega)]; omega
    refine zE ?_
    refine zA ?_
    refine zB ?_
    refine wl_upd 3 _ rfl (congrArg (Value.int .i64) hs) ?_
    iterate 2 refine wl_pure Tryz.hT rfl rfl rfl ?_
    refine wl_nil ?_
    refine zE ?_
    refine zS rfl ?_
    refine zI ?_
    refine zN ?_
    refine zE ?_
    refine zB ?_
    iterate 2 refine wl_pure Tryz.hT rfl rfl rfl ?_
    refine wl_nil ?_
    exact ne_loop (k + 1) hk (by omega) ⟨rfl, rfl, rfl, rfl, congrArg (fun z => some (Value.int .i64 z)) (wrap_id (x := (k : Int) + 1) (by omega) (by omega)), trivial⟩ [] rfl
  · have e : k = rs.length := by simp at h; omega
    subst e
    clear h
    rw [List.take_length]
    refine zJ ?_
    iterate 2 refine zK ?_
    refine zL ?_
    refine zE ?_
    refine zA ?_
    refine zB ?_
    refine wl_pure Tryz.hT rfl rfl rfl ?_
    refine wl_call (X := Vec) rfl rfl rfl rfl rfl rfl (by kernel_rfl) (fun W _ => grow_gives W (tot rs) hT) ?_
    rintro V0 ⟨hV0, hV0p⟩
    refine wl_pure Tryz.hT rfl rfl rfl ?_
    refine wl_nil ?_
    refine zE ?_
    iterate 2 refine zA ?_
    refine zB ?_
    iterate 3 refine wl_pure Tryz.hT rfl rfl rfl ?_
    refine wl_nil ?_
    refine zE ?_
    refine zH ?_
    refine wc_loop (X := Nat × Vec) (fun x => [(6, x.2.val (tot (rs.take x.1))), (25, slv p rs.length cap), (26, .int .i64 (rs.length : Nat)), (27, .int .i64 (x.1 : Nat))]) (fun x => [x.2.bx 42 (cellsOf (rs.take x.1).flatten)])
      (fun x => x.1 ≤ rs.length ∧ x.2.OK 7 (tot (rs.take x.1)) (cellsOf (rs.take x.1).flatten)) (fun x => rs.length - x.1) (0, V0) ⟨Nat.zero_le _, hV0⟩ ⟨rfl, rfl, rfl, rfl, trivial⟩ [] rfl ?_
    rintro ⟨k, V⟩ ⟨hk, hV⟩
    refine zA ?_
    refine zB ?_
    refine wl_pure Tryz.hT rfl rfl rfl ?_
    refine wl_nil ?_
    refine zE ?_
    refine zA ?_
    refine wc_cond rfl (fun h => ?_) (fun h => ?_)
    · have hk : k < rs.length := by simp at h; omega
      clear h
      obtain ⟨b, off, rfl, hrow⟩ := hR.row hk
      obtain ⟨q, cap2, hq1, hq2⟩ := hrow k hk
      refine zI ?_
      refine zE ?_
      refine zA ?_
      refine zH ?_
      refine zA ?_
      refine zB ?_
      refine wl_indexAddr Tryz.hT rfl rfl rfl rfl rfl rfl rfl (by omega) (by omega) ?_
      refine wl_load rfl rfl rfl rfl (fun W hp => RowAt.load 0 Tryz.hT rfl ((fun W hp => hq1.hp hp) W hp) rfl) ?_
      refine wl_pure Tryz.hT rfl rfl rfl ?_
      refine wl_nil ?_
      refine zE ?_
      refine zB ?_
      iterate 2 refine wl_pure Tryz.hT rfl rfl rfl ?_
      obtain ⟨b2, off2, rfl, hRk⟩ : ∃ b off, q = some ⟨b, off, none⟩ ∧ RingAt W b off (rg rs k) := by
        rcases hq2 with h | h
        · exact absurd h (hne _ (List.mem_of_getElem? (rg_get hk)))
        · exact h
      have h1 := tot_take_succ hk
      have h2 := tot_take_le rs (k + 1)
      refine wl_append (len := tot (rs.take k)) 0 Tryz.vec32 rfl rfl rfl rfl rfl rfl rfl rfl rfl hV (cellsOf_length (rg rs k)) (fun W hp j u hj => ?_) (cellsOf_one _) (by simp only [maxLen]; omega) (by omega) ?_
      · have hR' : RingP W (some ⟨b2, off2, none⟩) (rg rs k) := RingP.hp (.inr ⟨b2, off2, rfl, hRk⟩) hp
        rcases hR' with h | ⟨b3, off3, e, hR'⟩
        · exact absurd h (hne _ (List.mem_of_getElem? (rg_get hk)))
        · cases e
          rw [Addr.add_none]
          exact hR'.cells j u hj
      intro V' hV' _
      have e3 : cellsOf (rs.take k).flatten ++ cellsOf (rg rs k) = cellsOf (rs.take (k + 1)).flatten := by rw [take_flat hk, cellsOf_append]
      rw [e3, ← h1] at hV'
      rw [e3, ← h1]
      refine wl_pure Tryz.hT rfl rfl rfl ?_
      refine wl_nil ?_
      refine zN ?_
      refine zE ?_
      refine zB ?_
      iterate 2 refine wl_pure Tryz.hT rfl rfl rfl ?_
      refine wl_nil ?_
      exact ne_loop (k + 1, V') ⟨hk, hV'⟩ (by show rs.length - (k + 1) < rs.length - k; omega) ⟨rfl, rfl, rfl, congrArg (fun z => some (Value.int .i64 z)) (wrap_id (x := (k : Int) + 1) (by omega) (by omega)), trivial⟩ [] rfl
    · have e : k = rs.length := by simp at h; omega
      subst e
      rw [List.take_length] at hV
      rw [List.take_length]
      refine zJ ?_
      iterate 2 refine zK ?_
      refine zL ?_
      refine zE ?_
      refine zA ?_
      refine zB ?_
      iterate 2 refine wl_pure Tryz.hT rfl rfl rfl ?_
      refine wl_nil ?_
      refine zE ?_
      refine zO ?_
      refine ne_ret1 Tryz.hT rfl (.tmp rfl) V (by rw [flat_len]) (by rw [flat_len]; exact hV) fun W hp => NewBx.of_hp1 hp 0 rfl
end Go.Proofs.YtlagebbefnnnnaaGreatDoor
namespace Go.Proofs.YtlagebbefnnnnaaGreatDoor
open Go Go.RowKit Go.Am
set_option maxRecDepth 10000
-- BOXES 12
def lox (t u : Sd) : Int := if u.x < t.x then u.x else t.x
def loy (t u : Sd) : Int := if u.y < t.y then u.y else t.y
def hix (t u : Sd) : Int := if u.x > t.x then u.x else t.x
def hiy (t u : Sd) : Int := if u.y > t.y then u.y else t.y
def bsd (rs : List (List Sd)) (q : Nat × Nat) : Sd := sd (rg rs q.1) q.2
def esd (rs : List (List Sd)) (q : Nat × Nat) : Sd := sd (rg rs q.1) (nxt (rg rs q.1).length q.2)
def bcells (rs : List (List Sd)) (q : Nat × Nat) : List Value := [.int .i64 (lox (bsd rs q) (esd rs q)), .int .i64 (loy (bsd rs q) (esd rs q)), .int .i64 (hix (bsd rs q) (esd rs q)), .int .i64 (hiy (bsd rs q) (esd rs q))]
def pcells (q : Nat × Nat) : List Value := [.int .i64 (q.1 : Nat), .int .i64 (q.2 : Nat)]
def prow (k j : Nat) : List (Nat × Nat) := (List.range j).map fun i => (k, i)
def plsUp (rs : List (List Sd)) : Nat → List (Nat × Nat)
  | 0 => []
  | k + 1 => plsUp rs k ++ prow k (rg rs k).length
theorem prow_succ (k j : Nat) : prow k (j + 1) = prow k j ++ [(k, j)] := by simp [prow, List.range_succ]
theorem prow_len (k j : Nat) : (prow k j).length = j := by simp [prow]
theorem plsUp_len (rs : List (List Sd)) : ∀ k, k ≤ rs.length → (plsUp rs k).length = tot (rs.take k)
  | 0, _ => rfl
  | k + 1, h => by
    rw [tot_take_succ (by omega)]
    show (plsUp rs k ++ prow k _).length = _
    rw [List.length_append, plsUp_len rs k (by omega), prow_len]
theorem plsUp_mem (rs : List (List Sd)) : ∀ k, ∀ q ∈ plsUp rs k, q.1 < k ∧ q.2 < (rg rs q.1).length
  | 0, q, h => by cases h
  | k + 1, q, h => by
    rcases List.mem_append.1 h with h | h
    · have := plsUp_mem rs k q h
      exact ⟨by omega, this.2⟩
    · obtain ⟨i, hi, rfl⟩ := List.mem_map.1 h
      exact ⟨Nat.lt_succ_self k, List.mem_range.1 hi⟩
def nbB (n : Nat) (q q' : Nat × Nat) : Bool := (q.1 == q'.1) && (((q.2 : Int) - q'.2 == 1) || ((q.2 : Int) - q'.2 == (n : Int) - 1))
def meetB (t u t' u' : Sd) : Bool := decide (lox t u ≤ hix t' u') && decide (lox t' u' ≤ hix t u) && decide (loy t u ≤ hiy t' u') && decide (loy t' u' ≤ hiy t u)
def crossP (rs : List (List Sd)) (q q' : Nat × Nat) : Bool := !nbB (rg rs q.1).length q q' && meetB (bsd rs q) (esd rs q) (bsd rs q') (esd rs q')
def pl (rs : List (List Sd)) (i : Nat) : Nat × Nat := (plsUp rs rs.length).getD i (0, 0)
def crs (rs : List (List Sd)) : Bool := (List.range (tot rs)).any fun i => (List.range i).any fun k => crossP rs (pl rs i) (pl rs k)
/-- Rows of cells, one behind the other. -/
theorem flat_get {α : Type} (f : α → List Value) (n : Nat) (hf : ∀ x, (f x).length = n) : ∀ (l : List α) (i : Nat) (x : α), l[i]? = some x → ∀ (j : Nat) (u : Value), (f x)[j]? = some u → (l.flatMap f)[i * n + j]? = some u
  | [], i, x, h, _, _, _ => by simp at h
  | y :: l, 0, x, h, j, u, hu => by
    obtain rfl : y = x := by simpa using h
    rw [List.flatMap_cons, Nat.zero_mul, Nat.zero_add, List.getElem?_append_left (List.getElem?_eq_some_iff.1 hu).1]
    exact hu
  | y :: l, i + 1, x, h, j, u, hu => by
    rw [List.flatMap_cons, List.getElem?_append_right (by rw [hf]; rw [Nat.add_mul]; omega), hf]
    rw [show (i + 1) * n + j - n = i * n + j by rw [Nat.add_mul]; omega]
    exact flat_get f n hf l i x (by simpa using h) j u hu
theorem Vec.rowAt {α : Type} {f : α → List Value} {n : Nat} (hf : ∀ x, (f x).length = n) {l : List α} {g cap : Nat} {junk : List Value} {e : TypeId} {W0 W : World} {bxs : List Bx} (hp : Hp W0 bxs W) (k : Nat) (hk : nth bxs k = some ((⟨some g, cap, junk⟩ : Vec).bx e (l.flatMap f))) {i : Nat} {x : α} (hi : l[i]? = some x) :
    RowAt W g (0 + i * n) (f x) := by
  have h := RowAt.of_bx hp k hk rfl
  refine ⟨h.lt, fun j u hu => ?_⟩
  have h1 := flat_get f n hf l i x hi j u hu
  have := h.get (i * n + j) u (by
    show (l.flatMap f ++ junk)[i * n + j]? = some u
    rw [List.getElem?_append_left (List.getElem?_eq_some_iff.1 h1).1]
    exact h1)
  rw [Nat.zero_add] at this ⊢
  exact this
theorem Vec.val_eq {V : Vec} {size n : Nat} {xs : List Value} (h : V.OK size n xs) : V.val n = .slice (V.p.map fun g => ⟨g, 0, none⟩) n (match V.p with | none => 0 | some _ => V.cap) := by
  obtain ⟨p, cap, junk⟩ := V
  cases p with
  | none => have := h.nil rfl; subst this; rfl
  | some g => rfl
theorem any_range_true {n : Nat} {f : Nat → Bool} {k : Nat} (hk : k < n) (h : f k = true) : (List.range n).any f = true := List.any_eq_true.2 ⟨k, List.mem_range.2 hk, h⟩
theorem any_range_false {n : Nat} {f : Nat → Bool} (h : ∀ k, k < n → f k = false) : (List.range n).any f = false := Bool.eq_false_iff.2 fun h2 => by
  obtain ⟨k, hk, h3⟩ := List.any_eq_true.1 h2
  rw [h k (List.mem_range.1 hk)] at h3; cases h3
set_option maxHeartbeats 8000000 in
theorem crossedP_gives (W : World) (p : Option Addr) (cap : Nat) (rs : List (List Sd)) (hn : rs.length < 4611686018427387904) (hT : tot rs < 1099511627776) (hl : ∀ l ∈ rs, l.length < 4611686018427387904) (hR : RingsP W p rs) :
    CallsR Tryz.prog 95 #[slv p rs.length cap] W (fun _ : Unit => .bool (crs rs)) (fun _ => True) (fun _ => []) := by
  refine calls_enter (args := [slv p rs.length cap]) Tryz.func95 rfl rfl rfl ?_
  refine zA ?_
  refine zB ?_
  refine wl_pure Tryz.hT rfl rfl rfl ?_
  refine wl_nil ?_
  refine zE ?_
  refine zA ?_
  refine zB ?_
  (refine wl_allocZ Tryz.hZ rfl rfl rfl rfl ?_; intro)
  refine wl_nil ?_
  rename_i b3
  refine zE ?_
  refine zA ?_
  refine zB ?_
  (refine wl_allocZ Tryz.hZ rfl rfl rfl rfl ?_; intro)
  refine wl_nil ?_
  rename_i b4
  refine zE ?_
  iterate 2 refine zA ?_
  refine zB ?_
  iterate 3 refine wl_pure Tryz.hT rfl rfl rfl ?_
  refine wl_nil ?_
  refine zE ?_
  refine zH ?_
  iterate 2 refine wc_newGone ?_
  refine wc_newBag ?_
  refine wc_loopD (X := Nat × Vec × Vec × List Nat) (fun x => x.2.2.2.map dmark) (fun x => [(0, slv p rs.length cap), (3, .pointer (some ⟨b3, 0, none⟩)), (4, .pointer (some ⟨b4, 0, none⟩)), (14, slv p rs.length cap), (15, .int .i64 (rs.length : Nat)), (16, .int .i64 (x.1 : Nat))])
    (fun x => [⟨b3, 210, [x.2.1.val (plsUp rs x.1).length], true, none⟩, ⟨b4, 211, [x.2.2.1.val (plsUp rs x.1).length], true, none⟩, x.2.1.bx 213 ((plsUp rs x.1).flatMap (bcells rs)), x.2.2.1.bx 216 ((plsUp rs x.1).flatMap pcells), bag x.2.2.2])
    (fun x => x.1 ≤ rs.length ∧ x.2.1.OK 4 (plsUp rs x.1).length ((plsUp rs x.1).flatMap (bcells rs)) ∧ x.2.2.1.OK 2 (plsUp rs x.1).length ((plsUp rs x.1).flatMap pcells)) (fun x => rs.length - x.1) (0, Vec.empty, Vec.empty, [])
    ⟨Nat.zero_le _, Vec.OK.empty 4, Vec.OK.empty 2⟩ rfl ⟨rfl, rfl, rfl, rfl, rfl, rfl, trivial⟩ [] rfl ?_
  rintro ⟨k, V1, V2, ds⟩ ⟨hk0, hV10, hV20⟩
  have hk : k ≤ rs.length := hk0
  have hV1 : V1.OK 4 (plsUp rs k).length ((plsUp rs k).flatMap (bcells rs)) := hV10
  have hV2 : V2.OK 2 (plsUp rs k).length ((plsUp rs k).flatMap pcells) := hV20
  clear hk0 hV10 hV20
  refine zA ?_
  refine zB ?_
  refine wl_pure Tryz.hT rfl rfl rfl ?_
  refine wl_nil ?_
  refine zE ?_
  refine zA ?_
  refine wc_cond rfl (fun h => ?_) (fun h => ?_)
  · have hk : k < rs.length := by simp at h; omega
    clear h
    obtain ⟨b', off, rfl, hrow⟩ := hR.row hk
    obtain ⟨q, cap2, hq1, hq2⟩ := hrow k hk
    have hlk : (rg rs k).length < 4611686018427387904 := hl _ (List.mem_of_getElem? (rg_get hk))
    refine zI ?_
    refine zE ?_
    refine zA ?_
    refine zH ?_
    refine zA ?_
    refine zB ?_
    refine wl_pure Tryz.hT rfl rfl rfl ?_
    refine wl_indexAddr Tryz.hT rfl rfl rfl rfl rfl rfl rfl (by omega) (by omega) ?_
    refine wl_load rfl rfl rfl rfl (fun W hp => RowAt.load 0 Tryz.hT rfl ((fun W hp => hq1.hp hp) W hp) rfl) ?_
    (refine wl_allocZ Tryz.hZ rfl rfl rfl rfl ?_; intro)
    rename_i b5
    refine wl_storeBx 5 Tryz.hT rfl rfl rfl rfl rfl rfl rfl rfl rfl rfl rfl ?_
    refine wl_pure Tryz.hT rfl rfl rfl ?_
    refine wl_nil ?_
    refine zE ?_
    refine zA ?_
    refine zB ?_
    refine wl_pure Tryz.hT rfl rfl rfl ?_
    refine wl_call (X := Nat) rfl rfl rfl rfl rfl rfl (by kernel_rfl) (fun W _ => sides_gives q (rg rs k).length cap2 W) ?_
    intro b _
    refine wl_nil ?_
    refine zE ?_
    refine zH ?_
    refine wc_range (X := Vec × Vec × Nat) (fun x => [⟨b3, 210, [x.1.val (plsUp rs k ++ prow k x.2.2).length], true, none⟩, ⟨b4, 211, [x.2.1.val (plsUp rs k ++ prow k x.2.2).length], true, none⟩, x.1.bx 213 ((plsUp rs k ++ prow k x.2.2).flatMap (bcells rs)), x.2.1.bx 216 ((plsUp rs k ++ prow k x.2.2).flatMap pcells), bag ds, ⟨b5, 3, [.int .i64 (k : Nat)], true, none⟩, ⟨b, 32, [slv q (rg rs k).length cap2], true, none⟩])
      (fun j x => x.2.2 = j ∧ x.1.OK 4 (plsUp rs k ++ prow k x.2.2).length ((plsUp rs k ++ prow k x.2.2).flatMap (bcells rs)) ∧ x.2.1.OK 2 (plsUp rs k ++ prow k x.2.2).length ((plsUp rs k ++ prow k x.2.2).flatMap pcells)) (fun _ _ => False) (V1, V2, 0) rfl (by kernel_rfl) (sides_iter b q cap2 (rg rs k) hlk) (fun _ => rfl)
      ⟨rfl, by show V1.OK 4 (plsUp rs k ++ prow k 0).length _; rw [show plsUp rs k ++ prow k 0 = plsUp rs k by simp [prow]]; exact hV1, by show V2.OK 2 (plsUp rs k ++ prow k 0).length _; rw [show plsUp rs k ++ prow k 0 = plsUp rs k by simp [prow]]; exact hV2⟩ []
      (by show _ = _ ++ []; rw [show plsUp rs k ++ prow k (V1, V2, 0).2.2 = plsUp rs k by simp [prow]]; rfl) (fun j x W _ hp => SidesNeed.mk' hq2 hp 6 rfl) ?_ ?_ (fun _ _ _ _ _ h => h.elim)
    · rintro j' ⟨U1, U2, j⟩ d L rec hj ⟨e1, hU1, hU2⟩ hrec
      obtain rfl : j = j' := e1
      have hU1 : U1.OK 4 (plsUp rs k ++ prow k j).length ((plsUp rs k ++ prow k j).flatMap (bcells rs)) := hU1
      have hU2 : U2.OK 2 (plsUp rs k ++ prow k j).length ((plsUp rs k ++ prow k j).flatMap pcells) := hU2
      have hlen : (plsUp rs k ++ prow k (j + 1)).length ≤ tot rs := by
        rw [List.length_append, prow_len, plsUp_len rs k (by omega)]
        have h1 := tot_take_succ hk
        have h2 := tot_take_le rs (k + 1)
        omega
      have hlen1 : (plsUp rs k ++ prow k (j + 1)).length = (plsUp rs k ++ prow k j).length + 1 := by
        simp only [List.length_append, prow_len]; omega
      have es : plsUp rs k ++ prow k (j + 1) = (plsUp rs k ++ prow k j) ++ [(k, j)] := by rw [prow_succ, List.append_assoc]
      have eb1 : (plsUp rs k ++ prow k (j + 1)).flatMap (bcells rs) = (plsUp rs k ++ prow k j).flatMap (bcells rs) ++ bcells rs (k, j) := by rw [es, List.flatMap_append]; simp
      have eb2 : (plsUp rs k ++ prow k (j + 1)).flatMap pcells = (plsUp rs k ++ prow k j).flatMap pcells ++ pcells (k, j) := by rw [es, List.flatMap_append]; simp
      refine zA ?_
      refine zB ?_
      refine wl_pure Tryz.hT rfl rfl rfl ?_
      refine wl_nil ?_
      refine zE ?_
      refine zB ?_
      (refine wl_allocZ Tryz.hZ rfl rfl rfl rfl ?_; intro)
      refine wl_storeBx 9 Tryz.hT rfl rfl rfl rfl rfl rfl rfl rfl rfl rfl rfl ?_
      refine wl_nil ?_
      rename_i b8
      refine ne_begin 8 hrec rfl ?_
      refine wc_block ?_
      refine wc_lateX (X := {x : Vec × Vec // x.1.OK 4 (plsUp rs k ++ prow k (j + 1)).length ((plsUp rs k ++ prow k (j + 1)).flatMap (bcells rs)) ∧ x.2.OK 2 (plsUp rs k ++ prow k (j + 1)).length ((plsUp rs k ++ prow k (j + 1)).flatMap pcells)}) (fun _ => [(3, .pointer (some ⟨b3, 0, none⟩)), (4, .pointer (some ⟨b4, 0, none⟩))])
        (fun x => [⟨b3, 210, [x.1.1.val (plsUp rs k ++ prow k (j + 1)).length], true, none⟩, ⟨b4, 211, [x.1.2.val (plsUp rs k ++ prow k (j + 1)).length], true, none⟩, x.1.1.bx 213 ((plsUp rs k ++ prow k (j + 1)).flatMap (bcells rs)), x.1.2.bx 216 ((plsUp rs k ++ prow k (j + 1)).flatMap pcells), bag ds, ⟨b5, 3, [.int .i64 (k : Nat)], true, none⟩, ⟨b, 32, [slv q (rg rs k).length cap2], true, none⟩, rawD d, rawL L rec .busy none]) 6 [⟨b3, 210, [U1.val (plsUp rs k ++ prow k j).length], true, none⟩, ⟨b4, 211, [U2.val (plsUp rs k ++ prow k j).length], true, none⟩, gone, gone, bag ds, ⟨b5, 3, [.int .i64 (k : Nat)], true, none⟩, ⟨b, 32, [slv q (rg rs k).length cap2], true, none⟩, rawD d, rawL L rec .busy none, ⟨b8, 96, (arVal (sd (rg rs k) (prv (rg rs k).length j)) (sd (rg rs k) j) (sd (rg rs k) (nxt (rg rs k).length j))).cells.toList, true, none⟩] Tryz.mixed (by kernel_rfl) ?_ ?_
      · refine wq_loadBx 0 Tryz.hT rfl rfl rfl rfl rfl rfl rfl rfl ?_
        refine wq_loadBx 9 Tryz.hT rfl rfl rfl rfl rfl rfl rfl rfl ?_
        refine wq_call1 rfl rfl rfl rfl rfl rfl (by kernel_rfl) (fun W _ => (boxOf_gives ..)) ?_
        refine wq_loadBx 1 Tryz.hT rfl rfl rfl rfl rfl rfl rfl rfl ?_
        refine wq_loadBx 5 Tryz.hT rfl rfl rfl rfl rfl rfl rfl rfl ?_
        refine wq_pure Tryz.hT rfl rfl rfl ?_
        refine wq_buildZ Tryz.hZ Tryz.hT rfl rfl rfl rfl rfl rfl rfl rfl ?_
        refine wq_wt ?_
        refine wt_step rfl rfl (by ((repeat (first | refine Weak.same ?_ | refine Weak.off rfl ?_)); exact trivial)) ?_
        refine RS.cons ?_ (RS.cons ?_ (RS.nil))
        · (refine wl_buildRowZ Tryz.hZ Tryz.hT rfl rfl rfl rfl rfl rfl rfl rfl rfl rfl rfl ?_; intro)
          refine wl_nil ?_
          refine ne_wt ?_
          refine wt_step rfl rfl (by ((repeat (first | refine Weak.same ?_ | refine Weak.off rfl ?_)); exact trivial)) ?_
          refine RS.cons ?_ (RS.cons ?_ (RS.nil))
          · (first | refine wl_appendTo 2 10 Tryz.vec210 (plsUp rs k ++ prow k (j + 1)).length ((plsUp rs k ++ prow k (j + 1)).flatMap (bcells rs)) rfl rfl rfl rfl rfl rfl rfl rfl rfl rfl rfl hU1 rfl rfl hlen1.symm (by rw [eb1]; rfl) (by simp only [maxLen]; omega) (by omega) rfl ?_ | refine wl_appendTo 2 11 Tryz.vec210 (plsUp rs k ++ prow k (j + 1)).length ((plsUp rs k ++ prow k (j + 1)).flatMap (bcells rs)) rfl rfl rfl rfl rfl rfl rfl rfl rfl rfl rfl hU1 rfl rfl hlen1.symm (by rw [eb1]; rfl) (by simp only [maxLen]; omega) (by omega) rfl ?_); intro g1 c1 j1 hU1'
            refine wl_nil ?_
            refine ne_wt ?_
            refine wt_step rfl rfl (by ((repeat (first | refine Weak.same ?_ | refine Weak.off rfl ?_)); exact trivial)) ?_
            refine RS.cons ?_ (RS.nil)
            (refine wl_buildRowZ Tryz.hZ Tryz.hT rfl rfl rfl rfl rfl rfl rfl rfl rfl rfl rfl ?_; intro)
            refine wl_nil ?_
            refine ne_wt ?_
            refine wt_step rfl rfl (by ((repeat (first | refine Weak.same ?_ | refine Weak.off rfl ?_)); exact trivial)) ?_
            refine RS.cons ?_ (RS.nil)
            (first | refine wl_appendTo 3 10 Tryz.vec211 (plsUp rs k ++ prow k (j + 1)).length ((plsUp rs k ++ prow k (j + 1)).flatMap pcells) rfl rfl rfl rfl rfl rfl rfl rfl rfl rfl rfl hU2 rfl rfl hlen1.symm (by rw [eb2]; rfl) (by simp only [maxLen]; omega) (by omega) rfl ?_ | refine wl_appendTo 3 11 Tryz.vec211 (plsUp rs k ++ prow k (j + 1)).length ((plsUp rs k ++ prow k (j + 1)).flatMap pcells) rfl rfl rfl rfl rfl rfl rfl rfl rfl rfl rfl hU2 rfl rfl hlen1.symm (by rw [eb2]; rfl) (by simp only [maxLen]; omega) (by omega) rfl ?_); intro g2 c2 j2 hU2'
            refine wl_nil ?_
            refine ne_wt ?_
            refine wt_step rfl rfl (by ((repeat (first | refine Weak.same ?_ | refine Weak.off rfl ?_)); exact trivial)) ?_
            refine RS.cons ?_ (RS.nil)
            refine wl_storeBx 0 Tryz.hT rfl rfl rfl rfl rfl rfl rfl rfl rfl rfl rfl ?_
            refine wl_nil ?_
            refine ne_wt ?_
            refine wt_stepF rfl rfl (by kernel_rfl) ?_
            refine RS.cons ?_ (RS.nil)
            refine wl_storeBx 1 Tryz.hT rfl rfl rfl rfl rfl rfl rfl rfl rfl rfl rfl ?_
            refine wl_nil ?_
            refine ne_wt ?_
            refine wt_doneF rfl (by kernel_rfl) ?_
            exact ne_late ⟨(⟨some g1, c1, j1⟩, ⟨some g2, c2, j2⟩), hU1', hU2'⟩ ⟨rfl, rfl, trivial⟩ [0, 1, 2, 3, 4, 5, 6, 7, 8] (by decide) rfl
          · (refine wl_buildRowZ Tryz.hZ Tryz.hT rfl rfl rfl rfl rfl rfl rfl rfl rfl rfl rfl ?_; intro)
            refine wl_nil ?_
            refine ne_wt ?_
            refine wt_step rfl rfl (by ((repeat (first | refine Weak.same ?_ | refine Weak.off rfl ?_)); exact trivial)) ?_
            refine RS.cons ?_ (RS.nil)
            (first | refine wl_appendTo 2 10 Tryz.vec210 (plsUp rs k ++ prow k (j + 1)).length ((plsUp rs k ++ prow k (j + 1)).flatMap (bcells rs)) rfl rfl rfl rfl rfl rfl rfl rfl rfl rfl rfl hU1 rfl rfl hlen1.symm (by rw [eb1]; rfl) (by simp only [maxLen]; omega) (by omega) rfl ?_ | refine wl_appendTo 2 11 Tryz.vec210 (plsUp rs k ++ prow k (j + 1)).length ((plsUp rs k ++ prow k (j + 1)).flatMap (bcells rs)) rfl rfl rfl rfl rfl rfl rfl rfl rfl rfl rfl hU1 rfl rfl hlen1.symm (by rw [eb1]; rfl) (by simp only [maxLen]; omega) (by omega) rfl ?_); intro g1 c1 j1 hU1'
            refine wl_nil ?_
            refine ne_wt ?_
            refine wt_step rfl rfl (by ((repeat (first | refine Weak.same ?_ | refine Weak.off rfl ?_)); exact trivial)) ?_
            refine RS.cons ?_ (RS.nil)
            (first | refine wl_appendTo 3 10 Tryz.vec211 (plsUp rs k ++ prow k (j + 1)).length ((plsUp rs k ++ prow k (j + 1)).flatMap pcells) rfl rfl rfl rfl rfl rfl rfl rfl rfl rfl rfl hU2 rfl rfl hlen1.symm (by rw [eb2]; rfl) (by simp only [maxLen]; omega) (by omega) rfl ?_ | refine wl_appendTo 3 11 Tryz.vec211 (plsUp rs k ++ prow k (j + 1)).length ((plsUp rs k ++ prow k (j + 1)).flatMap pcells) rfl rfl rfl rfl rfl rfl rfl rfl rfl rfl rfl hU2 rfl rfl hlen1.symm (by rw [eb2]; rfl) (by simp only [maxLen]; omega) (by omega) rfl ?_); intro g2 c2 j2 hU2'
            refine wl_nil ?_
            refine ne_wt ?_
            refine wt_step rfl rfl (by ((repeat (first | refine Weak.same ?_ | refine Weak.off rfl ?_)); exact trivial)) ?_
            refine RS.cons ?_ (RS.nil)
            refine wl_storeBx 0 Tryz.hT rfl rfl rfl rfl rfl rfl rfl rfl rfl rfl rfl ?_
            refine wl_nil ?_
            refine ne_wt ?_
            refine wt_stepF rfl rfl (by kernel_rfl) ?_
            refine RS.cons ?_ (RS.nil)
            refine wl_storeBx 1 Tryz.hT rfl rfl rfl rfl rfl rfl rfl rfl rfl rfl rfl ?_
            refine wl_nil ?_
            refine ne_wt ?_
            refine wt_doneF rfl (by kernel_rfl) ?_
            exact ne_late ⟨(⟨some g1, c1, j1⟩, ⟨some g2, c2, j2⟩), hU1', hU2'⟩ ⟨rfl, rfl, trivial⟩ [0, 1, 2, 3, 4, 5, 6, 7, 8] (by decide) rfl
        · (refine wl_buildRowZ Tryz.hZ Tryz.hT rfl rfl rfl rfl rfl rfl rfl rfl rfl rfl rfl ?_; intro)
          refine wl_nil ?_
          refine ne_wt ?_
          refine wt_step rfl rfl (by ((repeat (first | refine Weak.same ?_ | refine Weak.off rfl ?_)); exact trivial)) ?_
          refine RS.cons ?_ (RS.nil)
          (refine wl_buildRowZ Tryz.hZ Tryz.hT rfl rfl rfl rfl rfl rfl rfl rfl rfl rfl rfl ?_; intro)
          refine wl_nil ?_
          refine ne_wt ?_
          refine wt_step rfl rfl (by ((repeat (first | refine Weak.same ?_ | refine Weak.off rfl ?_)); exact trivial)) ?_
          refine RS.cons ?_ (RS.nil)
          (first | refine wl_appendTo 2 10 Tryz.vec210 (plsUp rs k ++ prow k (j + 1)).length ((plsUp rs k ++ prow k (j + 1)).flatMap (bcells rs)) rfl rfl rfl rfl rfl rfl rfl rfl rfl rfl rfl hU1 rfl rfl hlen1.symm (by rw [eb1]; rfl) (by simp only [maxLen]; omega) (by omega) rfl ?_ | refine wl_appendTo 2 11 Tryz.vec210 (plsUp rs k ++ prow k (j + 1)).length ((plsUp rs k ++ prow k (j + 1)).flatMap (bcells rs)) rfl rfl rfl rfl rfl rfl rfl rfl rfl rfl rfl hU1 rfl rfl hlen1.symm (by rw [eb1]; rfl) (by simp only [maxLen]; omega) (by omega) rfl ?_); intro g1 c1 j1 hU1'
          refine wl_nil ?_
          refine ne_wt ?_
          refine wt_step rfl rfl (by ((repeat (first | refine Weak.same ?_ | refine Weak.off rfl ?_)); exact trivial)) ?_
          refine RS.cons ?_ (RS.nil)
          (first | refine wl_appendTo 3 10 Tryz.vec211 (plsUp rs k ++ prow k (j + 1)).length ((plsUp rs k ++ prow k (j + 1)).flatMap pcells) rfl rfl rfl rfl rfl rfl rfl rfl rfl rfl rfl hU2 rfl rfl hlen1.symm (by rw [eb2]; rfl) (by simp only [maxLen]; omega) (by omega) rfl ?_ | refine wl_appendTo 3 11 Tryz.vec211 (plsUp rs k ++ prow k (j + 1)).length ((plsUp rs k ++ prow k (j + 1)).flatMap pcells) rfl rfl rfl rfl rfl rfl rfl rfl rfl rfl rfl hU2 rfl rfl hlen1.symm (by rw [eb2]; rfl) (by simp only [maxLen]; omega) (by omega) rfl ?_); intro g2 c2 j2 hU2'
          refine wl_nil ?_
          refine ne_wt ?_
          refine wt_step rfl rfl (by ((repeat (first | refine Weak.same ?_ | refine Weak.off rfl ?_)); exact trivial)) ?_
          refine RS.cons ?_ (RS.nil)
          refine wl_storeBx 0 Tryz.hT rfl rfl rfl rfl rfl rfl rfl rfl rfl rfl rfl ?_
          refine wl_nil ?_
          refine ne_wt ?_
          refine wt_stepF rfl rfl (by kernel_rfl) ?_
          refine RS.cons ?_ (RS.nil)
          refine wl_storeBx 1 Tryz.hT rfl rfl rfl rfl rfl rfl rfl rfl rfl rfl rfl ?_
          refine wl_nil ?_
          refine ne_wt ?_
          refine wt_doneF rfl (by kernel_rfl) ?_
          exact ne_late ⟨(⟨some g1, c1, j1⟩, ⟨some g2, c2, j2⟩), hU1', hU2'⟩ ⟨rfl, rfl, trivial⟩ [0, 1, 2, 3, 4, 5, 6, 7, 8] (by decide) rfl
      · rintro ⟨⟨U1', U2'⟩, hU1', hU2'⟩
        refine zN ?_
        exact ne_round 8 (U1', U2', j + 1) hrec rfl ⟨rfl, hU1', hU2'⟩ [] rfl
    · rintro ⟨U1, U2, j⟩ d L rec ⟨e1, hU1, hU2⟩
      obtain rfl : j = (rg rs k).length := e1
      iterate 2 refine zN ?_
      refine zE ?_
      refine zB ?_
      iterate 2 refine wl_pure Tryz.hT rfl rfl rfl ?_
      refine wl_nil ?_
      refine ne_bag 4 7 rfl rfl ?_
      exact ne_loopD (X := Nat × Vec × Vec × List Nat) (k + 1, U1, U2, d :: ds) ⟨hk, hU1, hU2⟩ (by show rs.length - (k + 1) < rs.length - k; omega) rfl ⟨rfl, rfl, rfl, rfl, rfl, congrArg (fun z => some (Value.int .i64 z)) (wrap_id (x := (k : Int) + 1) (by omega) (by omega)), trivial⟩ [0, 1, 2, 3, 4] (by decide) rfl
  · have e : k = rs.length := by simp at h; omega
    subst e
    clear h hk
    have hpl : (plsUp rs rs.length).length = tot rs := by rw [plsUp_len rs _ (Nat.le_refl _), List.take_length]
    have hget : ∀ i, i < tot rs → (plsUp rs rs.length)[i]? = some (pl rs i) := fun i hi => by
      rw [← hpl] at hi
      simp [pl, hi]
    have hmem : ∀ i, i < tot rs → (pl rs i).1 < rs.length ∧ (pl rs i).2 < (rg rs (pl rs i).1).length := fun i hi => plsUp_mem rs _ _ (List.mem_of_getElem? (hget i hi))
    rw [hpl] at hV1 hV2
    have hR2 := hR
    have hm62 : tot rs < 1099511627776 := hT
    refine zJ ?_
    iterate 2 refine zK ?_
    refine zL ?_
    refine zE ?_
    iterate 2 refine zA ?_
    refine zB ?_
    refine wl_loadBx 0 Tryz.hT rfl rfl rfl rfl rfl rfl rfl rfl ?_
    refine wl_upd 37 (.slice (V1.p.map fun g => ⟨g, 0, none⟩) (tot rs) (match V1.p with | none => 0 | some _ => V1.cap)) rfl (show V1.val (plsUp rs rs.length).length = _ by rw [hpl]; exact Vec.val_eq hV1) ?_
    iterate 2 refine wl_pure Tryz.hT rfl rfl rfl ?_
    refine wl_nil ?_
    refine zE ?_
    refine zH ?_
    refine wc_loop (X := Nat) (fun i => [(0, slv p rs.length cap), (3, .pointer (some ⟨b3, 0, none⟩)), (4, .pointer (some ⟨b4, 0, none⟩)), (38, .int .i64 (tot rs : Nat)), (39, .int .i64 (i : Nat))])
      (fun _ => [⟨b3, 210, [V1.val (tot rs)], true, none⟩, ⟨b4, 211, [V2.val (tot rs)], true, none⟩, V1.bx 213 ((plsUp rs rs.length).flatMap (bcells rs)), V2.bx 216 ((plsUp rs rs.length).flatMap pcells), bag ds])
      (fun i => i ≤ tot rs ∧ ∀ i', i' < i → ((List.range i').any fun k => crossP rs (pl rs i') (pl rs k)) = false) (fun i => tot rs - i) 0 ⟨Nat.zero_le _, fun j hj => absurd hj (Nat.not_lt_zero _)⟩ ⟨rfl, rfl, rfl, rfl, rfl, trivial⟩ []
      (by show _ = _ ++ []; rw [hpl]; rfl) ?_
    rintro i ⟨hi, hno⟩
    refine zA ?_
    refine zB ?_
    refine wl_pure Tryz.hT rfl rfl rfl ?_
    refine wl_nil ?_
    refine zE ?_
    refine zA ?_
    refine wc_cond rfl (fun h => ?_) (fun h => ?_)
    rotate_left
    · have e : i = tot rs := by simp at h; omega
      subst e
      refine zJ ?_
      iterate 2 refine zK ?_
      refine zL ?_
      refine zE ?_
      refine zA ?_
      refine zB ?_
      refine wl_pure Tryz.hT rfl rfl rfl ?_
      refine wl_nil ?_
      refine zE ?_
      refine zO ?_
      refine ne_marks 4 ds rfl ?_
      have hf : crs rs = false := any_range_false hno
      exact ne_ret1 Tryz.hT rfl (.tmp rfl) () (by rw [hf]) trivial fun W _ => NewBx.nil _ _
    have hi : i < tot rs := by simp at h; omega
    clear h
    obtain ⟨p1, cap1, junk1⟩ := V1
    obtain ⟨p2, cap3, junk2⟩ := V2
    cases p1 with
    | none => exact absurd (hV1.nil rfl) (Nat.ne_of_gt (Nat.lt_of_le_of_lt (Nat.zero_le i) hi))
    | some g1 =>
    cases p2 with
    | none => exact absurd (hV2.nil rfl) (Nat.ne_of_gt (Nat.lt_of_le_of_lt (Nat.zero_le i) hi))
    | some g2 =>
    refine zI ?_
    refine zE ?_
    refine zA ?_
    refine zH ?_
    refine zA ?_
    refine zB ?_
    iterate 2 refine wl_pure Tryz.hT rfl rfl rfl ?_
    refine wl_nil ?_
    refine zE ?_
    refine zA ?_
    refine zB ?_
    iterate 2 refine wl_pure Tryz.hT rfl rfl rfl ?_
    refine wl_nil ?_
    refine zE ?_
    refine zH ?_
    refine wc_loop (X := Nat) (fun k => [(0, slv p rs.length cap), (3, .pointer (some ⟨b3, 0, none⟩)), (4, .pointer (some ⟨b4, 0, none⟩)), (38, .int .i64 (tot rs : Nat)), (39, .int .i64 (i : Nat)), (9, .int .i64 (i : Nat)), (42, .int .i64 (i : Nat)), (43, .int .i64 (k : Nat))])
      (fun _ => [⟨b3, 210, [slv (some ⟨g1, 0, none⟩) (tot rs) cap1], true, none⟩, ⟨b4, 211, [slv (some ⟨g2, 0, none⟩) (tot rs) cap3], true, none⟩, (⟨some g1, cap1, junk1⟩ : Vec).bx 213 ((plsUp rs rs.length).flatMap (bcells rs)), (⟨some g2, cap3, junk2⟩ : Vec).bx 216 ((plsUp rs rs.length).flatMap pcells), bag ds])
      (fun k => k ≤ i ∧ ∀ k', k' < k → crossP rs (pl rs i) (pl rs k') = false) (fun k => i - k) 0 ⟨Nat.zero_le _, fun j hj => absurd hj (Nat.not_lt_zero _)⟩ ⟨rfl, rfl, rfl, rfl, rfl, rfl, rfl, rfl, trivial⟩ [] rfl ?_
    rintro k ⟨hk, hnok⟩
    refine zA ?_
    refine zB ?_
    refine wl_pure Tryz.hT rfl rfl rfl ?_
    refine wl_nil ?_
    refine zE ?_
    refine zA ?_
    refine wc_cond rfl (fun h => ?_) (fun h => ?_)
    rotate_left
    · have e : k = i := by simp at h; omega
      subst e
      refine zJ ?_
      iterate 2 refine zK ?_
      refine zL ?_
      refine zN ?_
      refine zE ?_
      refine zB ?_
      iterate 2 refine wl_pure Tryz.hT rfl rfl rfl ?_
      refine wl_nil ?_
      refine ne_loop (k + 1) ⟨hi, fun i' hi' => ?_⟩ (by omega) ⟨rfl, rfl, rfl, rfl, congrArg (fun z => some (Value.int .i64 z)) (wrap_id (x := (k : Int) + 1) (by omega) (by omega)), trivial⟩ [] rfl
      by_cases e : i' = k
      · subst e; exact any_range_false hnok
      · exact hno i' (by omega)
    have hk : k < i := by simp at h; omega
    clear h
    have hkt : k < tot rs := by omega
    obtain ⟨hi1, hi2⟩ := hmem i hi
    obtain ⟨hk1, hk2⟩ := hmem k hkt
    obtain ⟨b', off, rfl, hrow⟩ := hR.row hi1
    obtain ⟨q, cap2, hq1, hq2⟩ := hrow _ hi1
    have hlk : (rg rs (pl rs i).1).length < 4611686018427387904 := hl _ (List.mem_of_getElem? (rg_get hi1))
    have hlk2 : (rg rs (pl rs k).1).length < 4611686018427387904 := hl _ (List.mem_of_getElem? (rg_get hk1))
    refine zI ?_
    refine zE ?_
    refine zA ?_
    refine zH ?_
    refine zA ?_
    refine zB ?_
    iterate 2 refine wl_pure Tryz.hT rfl rfl rfl ?_
    refine wl_nil ?_
    refine zE ?_
    refine zA ?_
    refine zB ?_
    refine wl_pure Tryz.hT rfl rfl rfl ?_
    refine wl_loadBx 1 Tryz.hT rfl rfl rfl rfl rfl rfl rfl rfl ?_
    refine wl_pure Tryz.hT rfl rfl rfl ?_
    refine wl_indexAddr Tryz.hT rfl rfl rfl rfl rfl rfl rfl (by omega) (by omega) ?_
    refine wl_pure Tryz.hT rfl rfl rfl ?_
    refine wl_load rfl rfl rfl rfl (fun W hp => RowAt.load 0 Tryz.hT rfl ((fun W hp => Vec.rowAt (f := pcells) (n := 2) (fun _ => rfl) hp 3 rfl (hget i hi)) W hp) rfl) ?_
    refine wl_indexAddr Tryz.hT rfl rfl rfl rfl rfl rfl rfl (by omega) (by omega) ?_
    refine wl_load rfl rfl rfl rfl (fun W hp => RowAt.load 0 Tryz.hT rfl ((fun W hp => hq1.hp hp) W hp) rfl) ?_
    iterate 2 refine wl_pure Tryz.hT rfl rfl rfl ?_
    refine wl_nil ?_
    refine zE ?_
    refine zA ?_
    refine zT Tryz.mixed (by kernel_rfl) ?_
    refine wq_loadBx 1 Tryz.hT rfl rfl rfl rfl rfl rfl rfl rfl ?_
    refine wq_pure Tryz.hT rfl rfl rfl ?_
    refine wq_indexAddr Tryz.hT rfl rfl rfl rfl rfl rfl rfl (by omega) (by omega) ?_
    refine wq_pure Tryz.hT rfl rfl rfl ?_
    refine wq_load rfl rfl rfl rfl (fun W hp => RowAt.load 1 Tryz.hT rfl ((fun W hp => Vec.rowAt (f := pcells) (n := 2) (fun _ => rfl) hp 3 rfl (hget i hi)) W hp) rfl) ?_
    refine wq_loadBx 1 Tryz.hT rfl rfl rfl rfl rfl rfl rfl rfl ?_
    refine wq_pure Tryz.hT rfl rfl rfl ?_
    refine wq_indexAddr Tryz.hT rfl rfl rfl rfl rfl rfl rfl (by omega) (by omega) ?_
    refine wq_pure Tryz.hT rfl rfl rfl ?_
    refine wq_load rfl rfl rfl rfl (fun W hp => RowAt.load 1 Tryz.hT rfl ((fun W hp => Vec.rowAt (f := pcells) (n := 2) (fun _ => rfl) hp 3 rfl (hget k hkt)) W hp) rfl) ?_
    iterate 2 refine wq_pure Tryz.hT rfl rfl rfl ?_
    refine wq_nil ?_
    refine wl_nil ?_
    have egap : w64 (((pl rs i).2 : Nat) - ((pl rs k).2 : Nat)) = ((pl rs i).2 : Int) - (pl rs k).2 := w64_id (by omega) (by omega)
    have en1 : w64 (((rg rs (pl rs i).1).length : Nat) - 1) = ((rg rs (pl rs i).1).length : Int) - 1 := w64_id (by omega) (by omega)
    refine ne_then ?_
    refine wc_upd 12 _ rfl (congrArg (Value.int .i64) egap) ?_
    refine wc_cut (X := Unit) (fun _ => [(0, slv (some ⟨b', off, none⟩) rs.length cap), (3, .pointer (some ⟨b3, 0, none⟩)), (4, .pointer (some ⟨b4, 0, none⟩)), (38, .int .i64 (tot rs : Nat)), (39, .int .i64 (i : Nat)), (9, .int .i64 (i : Nat)), (10, .int .i64 (k : Nat)), (42, .int .i64 (i : Nat)), (43, .int .i64 (k : Nat)), (13, .bool (nbB (rg rs (pl rs i).1).length (pl rs i) (pl rs k)))])
      (fun _ => [⟨b3, 210, [slv (some ⟨g1, 0, none⟩) (tot rs) cap1], true, none⟩, ⟨b4, 211, [slv (some ⟨g2, 0, none⟩) (tot rs) cap3], true, none⟩, (⟨some g1, cap1, junk1⟩ : Vec).bx 213 ((plsUp rs rs.length).flatMap (bcells rs)), (⟨some g2, cap3, junk2⟩ : Vec).bx 216 ((plsUp rs rs.length).flatMap pcells), bag ds]) (fun _ => True) ?_ ?_
    · refine zT Tryz.mixed (by kernel_rfl) ?_
      refine wq_loadBx 1 Tryz.hT rfl rfl rfl rfl rfl rfl rfl rfl ?_
      refine wq_pure Tryz.hT rfl rfl rfl ?_
      refine wq_indexAddr Tryz.hT rfl rfl rfl rfl rfl rfl rfl (by omega) (by omega) ?_
      refine wq_pure Tryz.hT rfl rfl rfl ?_
      refine wq_load rfl rfl rfl rfl (fun W hp => RowAt.load 0 Tryz.hT rfl ((fun W hp => Vec.rowAt (f := pcells) (n := 2) (fun _ => rfl) hp 3 rfl (hget i hi)) W hp) rfl) ?_
      refine wq_loadBx 1 Tryz.hT rfl rfl rfl rfl rfl rfl rfl rfl ?_
      refine wq_pure Tryz.hT rfl rfl rfl ?_
      refine wq_indexAddr Tryz.hT rfl rfl rfl rfl rfl rfl rfl (by omega) (by omega) ?_
      refine wq_pure Tryz.hT rfl rfl rfl ?_
      refine wq_load rfl rfl rfl rfl (fun W hp => RowAt.load 0 Tryz.hT rfl ((fun W hp => Vec.rowAt (f := pcells) (n := 2) (fun _ => rfl) hp 3 rfl (hget k hkt)) W hp) rfl) ?_
      iterate 2 refine wq_pure Tryz.hT rfl rfl rfl ?_
      have e1 : ((((pl rs i).1 : Nat) : Int) == (((pl rs k).1 : Nat) : Int)) = ((pl rs i).1 == (pl rs k).1) := by
        by_cases h : (pl rs i).1 = (pl rs k).1
        · rw [h, beq_self_eq_true, beq_self_eq_true]
        · have h1 : (((pl rs i).1 : Nat) : Int) ≠ (pl rs k).1 := by omega
          rw [beq_eq_false_iff_ne.2 h1, beq_eq_false_iff_ne.2 h]
      refine wq_part 77 rfl (fun h77 => ?_) (fun h77 => ?_)
      · have h77' : ((pl rs i).1 == (pl rs k).1) = true := e1.symm.trans h77
        iterate 3 refine wq_pure Tryz.hT rfl rfl rfl ?_
        refine wq_part 80 rfl (fun h80 => ?_) (fun h80 => ?_)
        · have e : nbB (rg rs (pl rs i).1).length (pl rs i) (pl rs k) = true := by
            have h80' : (((pl rs i).2 : Int) - (pl rs k).2 == 1) = true := h80
            unfold nbB; rw [h77', h80']; rfl
          iterate 4 refine wq_skip rfl rfl ?_
          iterate 3 refine wq_pure Tryz.hT rfl rfl rfl ?_
          refine wq_nil ?_
          refine wl_nil ?_
          exact ne_cut () trivial ⟨rfl, rfl, rfl, rfl, rfl, rfl, rfl, rfl, rfl, by rw [e]; rfl, trivial⟩ [] rfl
        · have e : nbB (rg rs (pl rs i).1).length (pl rs i) (pl rs k) = (((pl rs i).2 : Int) - (pl rs k).2 == w64 (((rg rs (pl rs i).1).length : Nat) - 1)) := by
            have h80' : (((pl rs i).2 : Int) - (pl rs k).2 == 1) = false := h80
            unfold nbB; rw [h77', h80', en1]; rfl
          iterate 7 refine wq_pure Tryz.hT rfl rfl rfl ?_
          refine wq_nil ?_
          refine wl_nil ?_
          exact ne_cut () trivial ⟨rfl, rfl, rfl, rfl, rfl, rfl, rfl, rfl, rfl, by rw [e]; rfl, trivial⟩ [] rfl
      · have h77' : ((pl rs i).1 == (pl rs k).1) = false := e1.symm.trans h77
        have e : nbB (rg rs (pl rs i).1).length (pl rs i) (pl rs k) = false := by unfold nbB; rw [h77']; rfl
        iterate 8 refine wq_skip rfl rfl ?_
        iterate 2 refine wq_pure Tryz.hT rfl rfl rfl ?_
        refine wq_nil ?_
        refine wl_nil ?_
        exact ne_cut () trivial ⟨rfl, rfl, rfl, rfl, rfl, rfl, rfl, rfl, rfl, by rw [e]; rfl, trivial⟩ [] rfl
    intro _ _
    have next : crossP rs (pl rs i) (pl rs k) = false → ∀ k', k' < k + 1 → crossP rs (pl rs i) (pl rs k') = false := fun h k' hk' => by
      by_cases e : k' = k
      · subst e; exact h
      · exact hnok k' (by omega)
    refine zA ?_
    refine zT Tryz.mixed (by kernel_rfl) ?_
    iterate 3 refine wq_pure Tryz.hT rfl rfl rfl ?_
    refine wq_part 89 rfl (fun h89 => ?_) (fun h89 => ?_)
    · have hnb : nbB (rg rs (pl rs i).1).length (pl rs i) (pl rs k) = false := by simpa using h89
      refine wq_loadBx 0 Tryz.hT rfl rfl rfl rfl rfl rfl rfl rfl ?_
      refine wq_pure Tryz.hT rfl rfl rfl ?_
      refine wq_indexAddr Tryz.hT rfl rfl rfl rfl rfl rfl rfl (by omega) (by omega) ?_
      refine wq_load rfl rfl rfl rfl (fun W hp => RowAt.load 0 Tryz.hT rfl ((fun W hp => Vec.rowAt (f := bcells rs) (n := 4) (fun _ => rfl) hp 2 rfl (hget i hi)) W hp) rfl) ?_
      refine wq_loadBx 0 Tryz.hT rfl rfl rfl rfl rfl rfl rfl rfl ?_
      refine wq_pure Tryz.hT rfl rfl rfl ?_
      refine wq_indexAddr Tryz.hT rfl rfl rfl rfl rfl rfl rfl (by omega) (by omega) ?_
      refine wq_load rfl rfl rfl rfl (fun W hp => RowAt.load 0 Tryz.hT rfl ((fun W hp => Vec.rowAt (f := bcells rs) (n := 4) (fun _ => rfl) hp 2 rfl (hget k hkt)) W hp) rfl) ?_
      refine wq_call1 rfl rfl rfl rfl rfl rfl (by kernel_rfl) (fun W _ => (meets_gives ..)) ?_
      refine wq_pure Tryz.hT rfl rfl rfl ?_
      refine wq_nil ?_
      refine wl_nil ?_
      refine zE ?_
      refine wc_cond rfl (fun h => ?_) (fun h => ?_)
      · refine zA ?_
        refine zB ?_
        refine wl_pure Tryz.hT rfl rfl rfl ?_
        refine wl_nil ?_
        refine zE ?_
        refine zO ?_
        refine zQ ?_
        iterate 2 refine zP ?_
        iterate 2 refine zQ ?_
        iterate 2 refine zP ?_
        refine zQ ?_
        refine zP ?_
        refine ne_marks 4 ds rfl ?_
        have hf : crs rs = true := any_range_true hi (any_range_true hk (by unfold crossP; rw [hnb]; exact h))
        exact ne_ret1 Tryz.hT rfl (.tmp rfl) () (by rw [hf]) trivial fun W _ => NewBx.nil _ _
      · refine zI ?_
        refine zN ?_
        refine zE ?_
        refine zB ?_
        iterate 2 refine wl_pure Tryz.hT rfl rfl rfl ?_
        refine wl_nil ?_
        exact ne_loop (k + 1) ⟨hk, next (by unfold crossP; rw [hnb]; exact h)⟩ (by omega) ⟨rfl, rfl, rfl, rfl, rfl, rfl, rfl, congrArg (fun z => some (Value.int .i64 z)) (wrap_id (x := (k : Int) + 1) (by omega) (by omega)), trivial⟩ [] rfl
    · have hnb : nbB (rg rs (pl rs i).1).length (pl rs i) (pl rs k) = true := by simpa using h89
      iterate 9 refine wq_skip rfl rfl ?_
      refine wq_pure Tryz.hT rfl rfl rfl ?_
      refine wq_nil ?_
      refine wl_nil ?_
      refine zE ?_
      refine zS rfl ?_
      refine zI ?_
      refine zN ?_
      refine zE ?_
      refine zB ?_
      iterate 2 refine wl_pure Tryz.hT rfl rfl rfl ?_
      refine wl_nil ?_
      exact ne_loop (k + 1) ⟨hk, next (by unfold crossP; rw [hnb]; rfl)⟩ (by omega) ⟨rfl, rfl, rfl, rfl, rfl, rfl, rfl, congrArg (fun z => some (Value.int .i64 z)) (wrap_id (x := (k : Int) + 1) (by omega) (by omega)), trivial⟩ [] rfl
end Go.Proofs.YtlagebbefnnnnaaGreatDoor
namespace Go.Proofs.YtlagebbefnnnnaaGreatDoor
-- OLD
open Go Go.RowKit Go.Am
set_option maxRecDepth 10000
-- BOXES 8
-- EQB 4
/-- Is the corner at the beginning of a side as it must be. -/
def okAt (s t u : Sd) : Bool :=
  !((w64 (u.x - t.x) == 0) == (w64 (u.y - t.y) == 0)) && !((w64 (t.x - s.x) == 0) == (w64 (u.x - t.x) == 0))
def okSide (l : List Sd) (k : Nat) : Bool := okAt (sd l (prv l.length k)) (sd l k) (sd l (nxt l.length k))
def shp (l : List Sd) : Bool := decide (4 ≤ l.length) && (List.range l.length).all (okSide l)
theorem shp_false {l : List Sd} {k : Nat} (hk : k < l.length) (h : okSide l k = false) : shp l = false := by
  unfold shp
  have : (List.range l.length).all (okSide l) = false := by
    apply Bool.eq_false_iff.2
    intro h2
    have := List.all_eq_true.1 h2 k (List.mem_range.2 hk)
    rw [h] at this; cases this
  rw [this, Bool.and_false]
set_option maxHeartbeats 4000000 in
theorem shaped_gives (W : World) (p : Option Addr) (cap : Nat) (l : List Sd) (hn : l.length < 4611686018427387904) (hR : RingP W p l) :
    CallsR Tryz.prog 94 #[slv p l.length cap] W (fun _ : Unit => .bool (shp l)) (fun _ => True) (fun _ => []) := by
  refine calls_enter (args := [slv p l.length cap]) Tryz.func94 rfl rfl rfl ?_
  refine zA ?_
  refine zB ?_
  refine wl_alloc (z := .bool false) rfl rfl rfl (fun W => by kernel_rfl) fun b2 => ?_
  refine wl_nil ?_
  refine ne_then ?_
  refine wc_cut (X := Unit) (fun _ => [(0, slv p l.length cap), (2, .pointer (some ⟨b2, 0, none⟩))]) (fun _ => [⟨b2, 4, [.bool false], true, none⟩]) (fun _ => 4 ≤ l.length) ?_ ?_
  · (refine wc_seq ?_; refine wc_region ?_)
    iterate 3 refine wl_pure Tryz.hT rfl rfl rfl ?_
    refine wl_nil ?_
    refine ne_then ?_
    refine wc_cond rfl (fun h => ?_) (fun h => ?_)
    · refine zA ?_
      refine zB ?_
      refine wl_storeBx 0 Tryz.hT rfl rfl rfl rfl rfl rfl rfl rfl rfl rfl rfl ?_
      refine zC ?_
      refine zE ?_
      refine zO ?_
      refine zP ?_
      have hs : shp l = false := by simp at h; simp [shp]; omega
      exact ne_ret1 Tryz.hT rfl (.cell 0 rfl rfl rfl rfl rfl) () (by rw [hs]) trivial fun W _ => NewBx.nil _ _
    · refine zI ?_
      exact ne_cut () (by simp at h; omega) ⟨rfl, rfl, trivial⟩ [] rfl
  intro _ h4
  iterate 2 refine zA ?_
  refine zB ?_
  refine wl_pure Tryz.hT rfl rfl rfl ?_
  refine wl_call (X := Nat) rfl rfl rfl rfl rfl rfl (by kernel_rfl) (fun W _ => sides_gives p l.length cap W) ?_
  intro b _
  refine zC ?_
  refine zE ?_
  refine zH ?_
  refine wc_range (X := Bool × Nat) (fun x => [⟨b2, 4, [.bool x.1], true, none⟩, ⟨b, 32, [slv p l.length cap], true, none⟩]) (fun k x => x.1 = false ∧ x.2 = k ∧ ∀ i, i < k → okSide l i = true) (fun c x => c = .ret ∧ x.1 = false ∧ ∃ k, k < l.length ∧ okSide l k = false) (false, 0) rfl (by kernel_rfl) (sides_iter b p cap l hn) (fun _ => rfl) ⟨rfl, rfl, fun i hi => by omega⟩ [] rfl (fun k x W _ hp => SidesNeed.mk' hR hp 1 rfl) ?_ ?_ ?_
  · rintro k ⟨_, _⟩ d L rec hk ⟨rfl, rfl, hok⟩ hrec
    rename_i k
    refine zB ?_
    refine wl_alloc (z := arVal default default default) rfl rfl rfl (fun W => by kernel_rfl) fun b4 => ?_
    refine wl_storeBx 4 Tryz.hT rfl rfl rfl rfl rfl rfl rfl rfl rfl rfl rfl ?_
    refine zC ?_
    refine ne_begin 3 hrec rfl ?_
    refine wc_block ?_
    refine wc_seq ?_
    refine wc_lateS (X := Nat × Nat) (fun x => [(2, .pointer (some ⟨b2, 0, none⟩)), (5, .pointer (some ⟨x.1, 0, none⟩)), (6, .pointer (some ⟨x.2, 0, none⟩))])
      (fun x => [⟨b2, 4, [.bool false], true, none⟩, ⟨b, 32, [slv p l.length cap], true, none⟩, rawD d, rawL L rec .busy none, ⟨b4, 96, (arVal (sd l (prv l.length k)) (sd l k) (sd l (nxt l.length k))).cells.toList, true, none⟩,
        ⟨x.1, 147, (spot (w64 ((sd l k).x - (sd l (prv l.length k)).x)) (w64 ((sd l k).y - (sd l (prv l.length k)).y))).cells.toList, true, none⟩,
        ⟨x.2, 147, (spot (w64 ((sd l (nxt l.length k)).x - (sd l k).x)) (w64 ((sd l (nxt l.length k)).y - (sd l k).y))).cells.toList, true, none⟩]) 4 Tryz.mixed (by kernel_rfl) ?_ ?_
    · refine wq_pure Tryz.hT rfl rfl rfl ?_
      refine wq_loadBx 4 Tryz.hT rfl rfl rfl rfl rfl rfl rfl rfl ?_
      refine wq_call1 rfl rfl rfl rfl rfl rfl (by kernel_rfl) (fun W _ => corner_gives (sd l (prv l.length k)) W) ?_
      refine wq_pure Tryz.hT rfl rfl rfl ?_
      refine wq_loadBx 4 Tryz.hT rfl rfl rfl rfl rfl rfl rfl rfl ?_
      refine wq_call1 rfl rfl rfl rfl rfl rfl (by kernel_rfl) (fun W _ => corner_gives (sd l k) W) ?_
      refine wq_call1 rfl rfl rfl rfl rfl rfl (by kernel_rfl) (fun W _ => to_gives _ _ _ _ W) ?_
      refine wq_loadBx 4 Tryz.hT rfl rfl rfl rfl rfl rfl rfl rfl ?_
      refine wq_call1 rfl rfl rfl rfl rfl rfl (by kernel_rfl) (fun W _ => way_gives (sd l (prv l.length k)) (sd l k) (sd l (nxt l.length k)) W) ?_
      refine zG ?_
      refine wt_step rfl rfl (by ((repeat (first | refine Weak.same ?_ | refine Weak.off rfl ?_)); exact trivial)) ?_
      refine RS.cons ?_ (RS.cons ?_ RS.nil)
      · refine wl_alloc (z := spot 0 0) rfl rfl rfl (fun W => by kernel_rfl) fun bA => ?_
        refine zC ?_
        refine zF ?_
        refine wt_step rfl rfl (by ((repeat (first | refine Weak.same ?_ | refine Weak.off rfl ?_)); exact trivial)) ?_
        refine RS.cons ?_ RS.nil
        refine wl_alloc (z := spot 0 0) rfl rfl rfl (fun W => by kernel_rfl) fun bB => ?_
        refine zC ?_
        refine zF ?_
        refine wt_step rfl rfl (by ((repeat (first | refine Weak.same ?_ | refine Weak.off rfl ?_)); exact trivial)) ?_
        refine RS.cons ?_ RS.nil
        refine wl_storeBx 5 Tryz.hT rfl rfl rfl rfl rfl rfl rfl rfl rfl rfl rfl ?_
        refine zC ?_
        refine zF ?_
        refine wt_step rfl rfl (by ((repeat (first | refine Weak.same ?_ | refine Weak.off rfl ?_)); exact trivial)) ?_
        refine RS.cons ?_ RS.nil
        refine wl_storeBx 6 Tryz.hT rfl rfl rfl rfl rfl rfl rfl rfl rfl rfl rfl ?_
        refine zC ?_
        refine zF ?_
        refine wt_done rfl (by ((repeat (first | refine Weak.same ?_ | refine Weak.off rfl ?_)); exact trivial)) ?_
        exact ne_late (bA, bB) ⟨rfl, rfl, rfl, trivial⟩ [0, 1, 2, 3, 4, 5, 6] (by decide) rfl
      · refine wl_alloc (z := spot 0 0) rfl rfl rfl (fun W => by kernel_rfl) fun bB => ?_
        refine zC ?_
        refine zF ?_
        refine wt_step rfl rfl (by ((repeat (first | refine Weak.same ?_ | refine Weak.off rfl ?_)); exact trivial)) ?_
        refine RS.cons ?_ RS.nil
        refine wl_alloc (z := spot 0 0) rfl rfl rfl (fun W => by kernel_rfl) fun bA => ?_
        refine zC ?_
        refine zF ?_
        refine wt_step rfl rfl (by ((repeat (first | refine Weak.same ?_ | refine Weak.off rfl ?_)); exact trivial)) ?_
        refine RS.cons ?_ RS.nil
        refine wl_storeBx 6 Tryz.hT rfl rfl rfl rfl rfl rfl rfl rfl rfl rfl rfl ?_
        refine zC ?_
        refine zF ?_
        refine wt_step rfl rfl (by ((repeat (first | refine Weak.same ?_ | refine Weak.off rfl ?_)); exact trivial)) ?_
        refine RS.cons ?_ RS.nil
        refine wl_storeBx 5 Tryz.hT rfl rfl rfl rfl rfl rfl rfl rfl rfl rfl rfl ?_
        refine zC ?_
        refine zF ?_
        refine wt_done rfl (by ((repeat (first | refine Weak.same ?_ | refine Weak.off rfl ?_)); exact trivial)) ?_
        exact ne_late (bA, bB) ⟨rfl, rfl, rfl, trivial⟩ [0, 1, 2, 3, 4, 6, 5] (by decide) rfl
    rintro ⟨bA, bB⟩
    refine zE ?_
    refine zA ?_
    refine zB ?_
    refine wl_pure Tryz.hT rfl rfl rfl ?_
    refine wl_loadBx 6 Tryz.hT rfl rfl rfl rfl rfl rfl rfl rfl ?_
    iterate 2 refine wl_pure Tryz.hT rfl rfl rfl ?_
    refine wl_loadBx 6 Tryz.hT rfl rfl rfl rfl rfl rfl rfl rfl ?_
    refine wl_pure Tryz.hT rfl rfl rfl ?_
    refine wl_eqB Tryz.underlying4 rfl rfl rfl rfl rfl rfl ?_
    refine wl_pure Tryz.hT rfl rfl rfl ?_
    refine wl_part 30 rfl (fun h30 => ?_) (fun h30 => ?_)
    · refine wl_skip rfl rfl ?_
      iterate 6 refine wl_skip rfl rfl ?_
      refine wl_pure Tryz.hT rfl rfl rfl ?_
      refine zC ?_
      refine zE ?_
      refine zR rfl ?_
      refine zA ?_
      refine zB ?_
      refine wl_storeBx 0 Tryz.hT rfl rfl rfl rfl rfl rfl rfl rfl rfl rfl rfl ?_
      refine zC ?_
      refine zE ?_
      refine zO ?_
      refine zQ ?_
      refine ne_round_ret 3 (false, k) hrec rfl ⟨rfl, rfl, k, hk, ?_⟩ [_, _, _] rfl
      simp [okSide, okAt] at h30 ⊢
      simp [h30]
    · refine wl_pure Tryz.hT rfl rfl rfl ?_
      refine wl_loadBx 5 Tryz.hT rfl rfl rfl rfl rfl rfl rfl rfl ?_
      iterate 2 refine wl_pure Tryz.hT rfl rfl rfl ?_
      refine wl_loadBx 6 Tryz.hT rfl rfl rfl rfl rfl rfl rfl rfl ?_
      refine wl_pure Tryz.hT rfl rfl rfl ?_
      refine wl_eqB Tryz.underlying4 rfl rfl rfl rfl rfl rfl ?_
      refine wl_pure Tryz.hT rfl rfl rfl ?_
      refine wl_nil ?_
      refine ne_then ?_
      refine wc_cond rfl (fun h => ?_) (fun h => ?_)
      · refine zA ?_
        refine zB ?_
        refine wl_storeBx 0 Tryz.hT rfl rfl rfl rfl rfl rfl rfl rfl rfl rfl rfl ?_
        refine zC ?_
        refine zE ?_
        refine zO ?_
        refine zQ ?_
        refine ne_round_ret 3 (false, k) hrec rfl ⟨rfl, rfl, k, hk, ?_⟩ [_, _, _] rfl
        simp [okSide, okAt] at h ⊢
        intro _
        exact h
      · refine zI ?_
        refine zN ?_
        refine ne_round 3 (false, k + 1) hrec rfl ⟨rfl, rfl, fun i hi => ?_⟩ [_, _, _] rfl
        by_cases e : i = k
        · subst e
          show okAt _ _ _ = true
          unfold okAt
          rw [Bool.and_eq_true, Bool.not_eq_true', Bool.not_eq_true']
          exact ⟨h30, h⟩
        · exact hok i (by show i < k; have : i < k + 1 := hi; omega)
  · rintro ⟨_, _⟩ d L rec ⟨rfl, rfl, hok⟩
    refine zN ?_
    refine zE ?_
    refine zA ?_
    refine zB ?_
    refine wl_storeBx 0 Tryz.hT rfl rfl rfl rfl rfl rfl rfl rfl rfl rfl rfl ?_
    refine zC ?_
    refine zE ?_
    refine zO ?_
    refine ne_mark 2 rfl ?_
    have hs : shp l = true := by simp only [shp, Bool.and_eq_true, decide_eq_true_eq, List.all_eq_true]; exact ⟨h4, fun i hi => hok i (List.mem_range.1 hi)⟩
    exact ne_ret1 Tryz.hT rfl (.cell 0 rfl rfl rfl rfl rfl) () (by rw [hs]) trivial fun W _ => NewBx.nil _ _
  · rintro ⟨_, _⟩ d L rec c ⟨rfl, rfl, k, hk, hf⟩
    refine zO ?_
    refine zQ ?_
    refine zP ?_
    refine ne_mark 2 rfl ?_
    have hs := shp_false hk hf
    exact ne_ret1 Tryz.hT rfl (.cell 0 rfl rfl rfl rfl rfl) () (by rw [hs]) trivial fun W _ => NewBx.nil _ _
end Go.Proofs.YtlagebbefnnnnaaGreatDoor
namespace Go.Proofs.YtlagebbefnnnnaaGreatDoor
-- OLD
open Go Go.RowKit Go.Am
set_option maxRecDepth 10000
-- BOXES 6
def btw (n a b : Int) : Bool := decide (a ≤ n) && decide (n ≤ b)
theorem between_gives (n a b : Int) : Gives Tryz.prog 166 [.int .i64 n, .int .i64 a, .int .i64 b] (.bool (btw n a b)) := by
  intro W
  refine calls_enter Tryz.func166 rfl rfl rfl ?_
  refine zA ?_
  refine zB ?_
  refine wl_pure Tryz.hT rfl rfl rfl ?_
  refine zC ?_
  refine zE ?_
  refine zA ?_
  refine zB ?_
  iterate 4 refine wl_pure Tryz.hT rfl rfl rfl ?_
  refine wl_part 10 rfl (fun h10 => ?_) (fun h10 => ?_)
  · refine wl_pure Tryz.hT rfl rfl rfl ?_
    iterate 4 refine wl_pure Tryz.hT rfl rfl rfl ?_
    refine zC ?_
    refine zE ?_
    refine zO ?_
    exact ne_ret1 Tryz.hT rfl (.tmp rfl) () (by simp_all [btw]) trivial fun W _ => NewBx.nil _ _
  · refine wl_skip rfl rfl ?_
    iterate 2 refine wl_skip rfl rfl ?_
    iterate 2 refine wl_pure Tryz.hT rfl rfl rfl ?_
    refine zC ?_
    refine zE ?_
    refine zO ?_
    exact ne_ret1 Tryz.hT rfl (.tmp rfl) () (by simp_all [btw] <;> intros <;> omega) trivial fun W _ => NewBx.nil _ _
/-- The numbers of a side are in their ranges. -/
def rgd (s : Sd) : Bool := (if s.gable then s.rise == 0 && s.run == 0 else btw s.rise 1 48 && btw s.run 1 48) && (btw s.x 0 65536 && btw s.y 0 65536 && btw s.plate 0 65536 && btw s.over 0 65536)
def num (s : Sd) : Nat → Int
  | 0 => s.x
  | 1 => s.y
  | 2 => s.plate
  | _ => s.over
set_option maxHeartbeats 4000000 in
theorem ranged_gives (s : Sd) : Gives Tryz.prog 91 [s.val] (.bool (rgd s)) := by
  intro W
  refine calls_enter Tryz.func91 rfl rfl rfl ?_
  (refine wc_seq ?_; refine wc_region ?_)
  refine wl_box rfl rfl rfl rfl ?_
  intro
  refine wl_pure Tryz.hT rfl rfl rfl ?_
  refine wl_nil ?_
  refine ne_then ?_
  rename_i b1
  refine wc_cut (X := Unit) (fun _ => [(1, .pointer (some ⟨b1, 0, none⟩))]) (fun _ => [⟨b1, 42, s.cells, true, none⟩]) (fun _ => (if s.gable then s.rise == 0 && s.run == 0 else btw s.rise 1 48 && btw s.run 1 48) = true) ?_ ?_
  · (refine wc_seq ?_; refine wc_region ?_)
    refine wl_pure Tryz.hT rfl rfl rfl ?_
    refine wl_loadBx 0 Tryz.hT rfl rfl rfl rfl rfl rfl rfl rfl ?_
    refine wl_nil ?_
    refine ne_then ?_
    refine wc_cond rfl (fun hg => ?_) (fun hg => ?_)
    · (refine wc_seq ?_; refine wc_region ?_)
      refine wl_pure Tryz.hT rfl rfl rfl ?_
      refine wl_loadBx 0 Tryz.hT rfl rfl rfl rfl rfl rfl rfl rfl ?_
      iterate 2 refine wl_pure Tryz.hT rfl rfl rfl ?_
      refine wl_part 10 rfl (fun h10 => ?_) (fun h10 => ?_)
      · refine wl_skip rfl rfl ?_
        iterate 2 refine wl_skip rfl rfl ?_
        refine wl_pure Tryz.hT rfl rfl rfl ?_
        refine zC ?_
        refine zE ?_
        refine zR rfl ?_
        refine zA ?_
        refine zB ?_
        refine wl_pure Tryz.hT rfl rfl rfl ?_
        refine zC ?_
        refine zE ?_
        refine zO ?_
        refine zP ?_
        exact ne_ret1 Tryz.hT rfl (.tmp rfl) () (by simp_all [rgd]) trivial fun W _ => NewBx.nil _ _
      · refine wl_pure Tryz.hT rfl rfl rfl ?_
        refine wl_loadBx 0 Tryz.hT rfl rfl rfl rfl rfl rfl rfl rfl ?_
        iterate 2 refine wl_pure Tryz.hT rfl rfl rfl ?_
        refine wl_nil ?_
        refine ne_then ?_
        refine wc_cond rfl (fun h14 => ?_) (fun h14 => ?_)
        · refine zA ?_
          refine zB ?_
          refine wl_pure Tryz.hT rfl rfl rfl ?_
          refine zC ?_
          refine zE ?_
          refine zO ?_
          refine zP ?_
          exact ne_ret1 Tryz.hT rfl (.tmp rfl) () (by simp_all [rgd]) trivial fun W _ => NewBx.nil _ _
        · refine zI ?_
          exact ne_cut () (by simp_all) ⟨rfl, trivial⟩ [] rfl
    · (refine wc_seq ?_; refine wc_region ?_)
      refine wl_pure Tryz.hT rfl rfl rfl ?_
      refine wl_loadBx 0 Tryz.hT rfl rfl rfl rfl rfl rfl rfl rfl ?_
      refine wl_call1 rfl rfl rfl rfl rfl rfl (by kernel_rfl) (fun W _ => between_gives _ _ _ W) ?_
      iterate 2 refine wl_pure Tryz.hT rfl rfl rfl ?_
      refine wl_part 19 rfl (fun h19 => ?_) (fun h19 => ?_)
      · refine wl_skip rfl rfl ?_
        iterate 3 refine wl_skip rfl rfl ?_
        refine wl_pure Tryz.hT rfl rfl rfl ?_
        refine zC ?_
        refine zE ?_
        refine zR rfl ?_
        refine zA ?_
        refine zB ?_
        refine wl_pure Tryz.hT rfl rfl rfl ?_
        refine zC ?_
        refine zE ?_
        refine zO ?_
        refine zP ?_
        exact ne_ret1 Tryz.hT rfl (.tmp rfl) () (by simp_all [rgd]) trivial fun W _ => NewBx.nil _ _
      · refine wl_pure Tryz.hT rfl rfl rfl ?_
        refine wl_loadBx 0 Tryz.hT rfl rfl rfl rfl rfl rfl rfl rfl ?_
        refine wl_call1 rfl rfl rfl rfl rfl rfl (by kernel_rfl) (fun W _ => between_gives _ _ _ W) ?_
        iterate 2 refine wl_pure Tryz.hT rfl rfl rfl ?_
        refine wl_nil ?_
        refine ne_then ?_
        refine wc_cond rfl (fun h14 => ?_) (fun h14 => ?_)
        · refine zA ?_
          refine zB ?_
          refine wl_pure Tryz.hT rfl rfl rfl ?_
          refine zC ?_
          refine zE ?_
          refine zO ?_
          refine zP ?_
          exact ne_ret1 Tryz.hT rfl (.tmp rfl) () (by simp_all [rgd]) trivial fun W _ => NewBx.nil _ _
        · refine zI ?_
          exact ne_cut () (by simp_all) ⟨rfl, trivial⟩ [] rfl
  · intro _ hg
    iterate 2 refine zA ?_
    refine zB ?_
    refine wl_pure Tryz.hT rfl rfl rfl ?_
    refine wl_loadBx 0 Tryz.hT rfl rfl rfl rfl rfl rfl rfl rfl ?_
    refine wl_pure Tryz.hT rfl rfl rfl ?_
    refine wl_loadBx 0 Tryz.hT rfl rfl rfl rfl rfl rfl rfl rfl ?_
    refine wl_pure Tryz.hT rfl rfl rfl ?_
    refine wl_loadBx 0 Tryz.hT rfl rfl rfl rfl rfl rfl rfl rfl ?_
    refine wl_pure Tryz.hT rfl rfl rfl ?_
    refine wl_loadBx 0 Tryz.hT rfl rfl rfl rfl rfl rfl rfl rfl ?_
    refine wl_buildRow (.int .i64 0) Tryz.hT rfl rfl rfl rfl rfl (fun W => by kernel_rfl) rfl rfl (by rfl) (by rfl) rfl fun b33 => ?_
    iterate 2 refine wl_pure Tryz.hT rfl rfl rfl ?_
    refine zC ?_
    refine zE ?_
    refine zH ?_
    refine wc_loop (X := Nat) (fun k => [(33, .slice (some ⟨b33, 0, none⟩) 4 4), (34, .int .i64 4), (35, .int .i64 (k : Nat))]) (fun _ => [⟨b1, 42, s.cells, true, none⟩, ⟨b33, 3, [.int .i64 s.x, .int .i64 s.y, .int .i64 s.plate, .int .i64 s.over], true, none⟩])
      (fun k => k ≤ 4 ∧ ∀ i, i < k → btw (num s i) 0 65536 = true) (fun k => 4 - k) 0 ⟨by omega, fun i hi => by omega⟩ ⟨rfl, rfl, rfl, trivial⟩ [] rfl ?_
    rintro k ⟨hk, hin⟩
    (refine wc_seq ?_; refine wc_region ?_)
    refine wl_pure Tryz.hT rfl rfl rfl ?_
    refine wl_nil ?_
    refine ne_then ?_
    refine wc_cut (X := Unit) (fun _ => [(33, .slice (some ⟨b33, 0, none⟩) 4 4), (34, .int .i64 4), (35, .int .i64 (k : Nat))]) (fun _ => [⟨b1, 42, s.cells, true, none⟩, ⟨b33, 3, [.int .i64 s.x, .int .i64 s.y, .int .i64 s.plate, .int .i64 s.over], true, none⟩]) (fun _ => k < 4) ?_ ?_
    · skip
      refine wc_cond rfl (fun h => ?_) (fun h => ?_)
      · refine zI ?_
        exact ne_cut () (by simp at h; omega) ⟨rfl, rfl, rfl, trivial⟩ [] rfl
      · refine zJ ?_
        iterate 2 refine zK ?_
        refine zL ?_
        refine zE ?_
        refine zA ?_
        refine zB ?_
        refine wl_pure Tryz.hT rfl rfl rfl ?_
        refine zC ?_
        refine zE ?_
        refine zO ?_
        have : k = 4 := by simp at h; omega
        subst this
        exact ne_ret1 Tryz.hT rfl (.tmp rfl) () (by have h0 := hin 0 (by omega); have h1 := hin 1 (by omega); have h2 := hin 2 (by omega); have h3 := hin 3 (by omega); simp only [num] at h0 h1 h2 h3; simp [rgd, h0, h1, h2, h3, hg]) trivial fun W _ => NewBx.nil _ _
    · intro _ hk
      refine zA ?_
      refine zH ?_
      refine zA ?_
      refine zB ?_
      refine wl_indexAddr Tryz.hT rfl rfl rfl rfl rfl rfl rfl (by omega) (by omega) ?_
      refine wl_load (v := .int .i64 (num s k)) rfl rfl rfl rfl (fun W hp => bx_load (k := 1) Tryz.hT rfl rfl rfl (by
        match k, hk with
        | 0, _ => rfl
        | 1, _ => rfl
        | 2, _ => rfl
        | 3, _ => rfl) W hp) ?_
      refine wl_pure Tryz.hT rfl rfl rfl ?_
      refine zC ?_
      refine zE ?_
      refine zA ?_
      refine zB ?_
      refine wl_pure Tryz.hT rfl rfl rfl ?_
      refine wl_call1 rfl rfl rfl rfl rfl rfl (by kernel_rfl) (fun W _ => between_gives _ _ _ W) ?_
      refine wl_pure Tryz.hT rfl rfl rfl ?_
      refine wl_nil ?_
      refine ne_then ?_
      refine wc_cond rfl (fun h => ?_) (fun h => ?_)
      · refine zA ?_
        refine zB ?_
        refine wl_pure Tryz.hT rfl rfl rfl ?_
        refine zC ?_
        refine zE ?_
        refine zO ?_
        refine zQ ?_
        iterate 2 refine zP ?_
        refine zQ ?_
        refine zP ?_
        have h : btw (num s k) 0 65536 = false := by simpa using h
        have hr : rgd s = false := by
          match k, hk with
          | 0, _ => simp only [num] at h; simp [rgd, h]
          | 1, _ => simp only [num] at h; simp [rgd, h]
          | 2, _ => simp only [num] at h; simp [rgd, h]
          | 3, _ => simp only [num] at h; simp [rgd, h]
        exact ne_ret1 Tryz.hT rfl (.tmp rfl) () (by rw [hr]) trivial fun W _ => NewBx.nil _ _
      · refine zI ?_
        refine zN ?_
        refine zE ?_
        refine zB ?_
        iterate 2 refine wl_pure Tryz.hT rfl rfl rfl ?_
        refine zC ?_
        refine ne_loop (k + 1) ⟨hk, fun i hi => ?_⟩ (by omega) ⟨rfl, rfl, congrArg (fun z => some (Value.int .i64 z)) (wrap_id (x := (k : Int) + 1) (by omega) (by omega)), trivial⟩ [] rfl
        by_cases e : i = k
        · subst e; simpa using h
        · exact hin i (by omega)
end Go.Proofs.YtlagebbefnnnnaaGreatDoor
namespace Go.Proofs.YtlagebbefnnnnaaGreatDoor
open Go Go.RowKit Go.Am
set_option maxRecDepth 10000
-- BOXES 2
-- USES ranged_gives
/-- The first place at which a predicate holds, or -1. -/
def idxF {α : Type} (f : α → Bool) : List α → Nat → Int
  | [], _ => -1
  | x :: l, k => if f x = true then (k : Int) else idxF f l (k + 1)
theorem idxF_any {α : Type} (f : α → Bool) : ∀ (l : List α) (k : Nat), decide (idxF f l k ≥ 0) = l.any f
  | [], k => by simp [idxF]
  | x :: l, k => by
    unfold idxF
    by_cases h : f x = true
    · rw [if_pos h, List.any_cons, h, Bool.true_or, decide_eq_true_iff]; omega
    · rw [if_neg h, idxF_any f l (k + 1), List.any_cons]
      simp [h]
theorem indexSd_gives (g : Nat) (hE : entersB Tryz.prog g = true) (f : Sd → Bool) (hf : ∀ s, Gives Tryz.prog g [s.val] (.bool (f s))) (W : World) (p : Option Addr) (cap : Nat) (l : List Sd) (hn : l.length < 4611686018427387904) (hR : RingP W p l) :
    CallsR Tryz.prog 109 #[slv p l.length cap, .func (.func g) #[] #[]] W (fun _ : Unit => .int .i64 (idxF f l 0)) (fun _ => True) (fun _ => []) := by
  refine calls_enter (args := [slv p l.length cap, .func (.func g) #[] #[]]) Tryz.func109 rfl rfl rfl ?_
  refine zA ?_
  refine zB ?_
  refine wl_pure Tryz.hT rfl rfl rfl ?_
  refine wl_nil ?_
  refine zE ?_
  iterate 2 refine zA ?_
  refine zB ?_
  iterate 3 refine wl_pure Tryz.hT rfl rfl rfl ?_
  refine wl_nil ?_
  refine zE ?_
  refine zH ?_
  refine wc_loop (X := Nat) (fun k => [(0, slv p l.length cap), (1, .func (.func g) #[] #[]), (7, .int .i64 (l.length : Nat)), (8, .int .i64 (k : Nat))]) (fun _ => [])
    (fun k => k ≤ l.length ∧ idxF f l 0 = idxF f (l.drop k) k) (fun k => l.length - k) 0 ⟨Nat.zero_le _, rfl⟩ ⟨rfl, rfl, rfl, rfl, trivial⟩ [] rfl ?_
  rintro k ⟨hk, hi⟩
  refine zA ?_
  refine zB ?_
  refine wl_pure Tryz.hT rfl rfl rfl ?_
  refine wl_nil ?_
  refine zE ?_
  refine zA ?_
  refine wc_cond rfl (fun h => ?_) (fun h => ?_)
  rotate_left
  · refine zJ ?_
    iterate 2 refine zK ?_
    refine zL ?_
    refine zE ?_
    refine zA ?_
    refine zB ?_
    refine wl_pure Tryz.hT rfl rfl rfl ?_
    refine wl_nil ?_
    refine zE ?_
    refine zO ?_
    have e : k = l.length := by simp at h; omega
    rw [e, List.drop_length] at hi
    exact ne_ret1 Tryz.hT rfl (.tmp rfl) () (by rw [hi]; rfl) trivial fun W _ => NewBx.nil _ _
  · have hk : k < l.length := by simp at h; omega
    clear h
    obtain ⟨b, off, rfl, hrow⟩ := hR.row hk
    refine zI ?_
    refine zE ?_
    refine zA ?_
    refine zH ?_
    refine zA ?_
    refine zB ?_
    iterate 2 refine wl_pure Tryz.hT rfl rfl rfl ?_
    refine wl_nil ?_
    refine zE ?_
    refine zA ?_
    refine zB ?_
    iterate 3 refine wl_pure Tryz.hT rfl rfl rfl ?_
    refine wl_indexAddr Tryz.hT rfl rfl rfl rfl rfl rfl rfl (by omega) (by omega) ?_
    refine wl_load rfl rfl rfl rfl (fun W hp => RowAt.load 0 Tryz.hT rfl ((fun W hp => (hrow k hk).hp hp) W hp) rfl) ?_
    refine wl_call1 (g := g) (v := .bool (f (sd l k))) rfl rfl rfl rfl rfl rfl hE (fun W _ => hf (sd l k) W) ?_
    have hd : l.drop k = sd l k :: l.drop (k + 1) := by
      rw [List.drop_eq_getElem_cons hk]; simp [sd, hk]
    have hstep : idxF f (l.drop k) k = if f (sd l k) = true then (k : Int) else idxF f (l.drop (k + 1)) (k + 1) := by rw [hd]; rfl
    rw [hstep] at hi
    refine zC ?_
    refine zE ?_
    refine wc_cond rfl (fun h => ?_) (fun h => ?_)
    · refine zA ?_
      refine zB ?_
      iterate 2 refine wl_pure Tryz.hT rfl rfl rfl ?_
      refine wl_nil ?_
      refine zE ?_
      refine zO ?_
      refine zQ ?_
      iterate 2 refine zP ?_
      refine zQ ?_
      refine zP ?_
      rw [if_pos h] at hi
      exact ne_ret1 Tryz.hT rfl (.tmp rfl) () (by rw [hi]) trivial fun W _ => NewBx.nil _ _
    · refine zI ?_
      refine zN ?_
      refine zE ?_
      refine zB ?_
      iterate 2 refine wl_pure Tryz.hT rfl rfl rfl ?_
      refine wl_nil ?_
      rw [if_neg (by rw [h]; decide)] at hi
      exact ne_loop (k + 1) ⟨hk, hi⟩ (by omega) ⟨rfl, rfl, rfl, congrArg (fun z => some (Value.int .i64 z)) (wrap_id (x := (k : Int) + 1) (by omega) (by omega)), trivial⟩ [] rfl
theorem containsSd_gives (g : Nat) (hE : entersB Tryz.prog g = true) (f : Sd → Bool) (hf : ∀ s, Gives Tryz.prog g [s.val] (.bool (f s))) (W : World) (p : Option Addr) (cap : Nat) (l : List Sd) (hn : l.length < 4611686018427387904) (hR : RingP W p l) :
    CallsR Tryz.prog 89 #[slv p l.length cap, .func (.func g) #[] #[]] W (fun _ : Unit => .bool (l.any f)) (fun _ => True) (fun _ => []) := by
  refine calls_enter (args := [slv p l.length cap, .func (.func g) #[] #[]]) Tryz.func89 rfl rfl rfl ?_
  refine zA ?_
  refine zB ?_
  refine wl_pure Tryz.hT rfl rfl rfl ?_
  refine zC ?_
  refine zE ?_
  refine zA ?_
  refine zB ?_
  iterate 2 refine wl_pure Tryz.hT rfl rfl rfl ?_
  refine wl_call1 rfl rfl rfl rfl rfl rfl (by kernel_rfl) (fun W hp => indexSd_gives g hE f hf W p cap l hn (hR.hp hp)) ?_
  iterate 2 refine wl_pure Tryz.hT rfl rfl rfl ?_
  refine zC ?_
  refine zE ?_
  refine zO ?_
  exact ne_ret1 Tryz.hT rfl (.tmp rfl) () (by rw [idxF_any]) trivial fun W _ => NewBx.nil _ _
theorem indexRg_gives (g : Nat) (hE : entersB Tryz.prog g = true) (f : List Sd → Bool) (hf : ∀ W p cap l, l.length < 4611686018427387904 → RingP W p l → CallsR Tryz.prog g #[slv p l.length cap] W (fun _ : Unit => .bool (f l)) (fun _ => True) (fun _ => [])) (W : World) (p : Option Addr) (cap : Nat) (rs : List (List Sd)) (hn : rs.length < 4611686018427387904) (hl : ∀ l ∈ rs, l.length < 4611686018427387904) (hR : RingsP W p rs) :
    CallsR Tryz.prog 167 #[slv p rs.length cap, .func (.func g) #[] #[]] W (fun _ : Unit => .int .i64 (idxF f rs 0)) (fun _ => True) (fun _ => []) := by
  refine calls_enter (args := [slv p rs.length cap, .func (.func g) #[] #[]]) Tryz.func167 rfl rfl rfl ?_
  refine zA ?_
  refine zB ?_
  refine wl_pure Tryz.hT rfl rfl rfl ?_
  refine wl_nil ?_
  refine zE ?_
  iterate 2 refine zA ?_
  refine zB ?_
  iterate 3 refine wl_pure Tryz.hT rfl rfl rfl ?_
  refine wl_nil ?_
  refine zE ?_
  refine zH ?_
  refine wc_loop (X := Nat) (fun k => [(0, slv p rs.length cap), (1, .func (.func g) #[] #[]), (7, .int .i64 (rs.length : Nat)), (8, .int .i64 (k : Nat))]) (fun _ => [])
    (fun k => k ≤ rs.length ∧ idxF f rs 0 = idxF f (rs.drop k) k) (fun k => rs.length - k) 0 ⟨Nat.zero_le _, rfl⟩ ⟨rfl, rfl, rfl, rfl, trivial⟩ [] rfl ?_
  rintro k ⟨hk, hi⟩
  refine zA ?_
  refine zB ?_
  refine wl_pure Tryz.hT rfl rfl rfl ?_
  refine wl_nil ?_
  refine zE ?_
  refine zA ?_
  refine wc_cond rfl (fun h => ?_) (fun h => ?_)
  rotate_left
  · refine zJ ?_
    iterate 2 refine zK ?_
    refine zL ?_
    refine zE ?_
    refine zA ?_
    refine zB ?_
    refine wl_pure Tryz.hT rfl rfl rfl ?_
    refine wl_nil ?_
    refine zE ?_
    refine zO ?_
    have e : k = rs.length := by simp at h; omega
    rw [e, List.drop_length] at hi
    exact ne_ret1 Tryz.hT rfl (.tmp rfl) () (by rw [hi]; rfl) trivial fun W _ => NewBx.nil _ _
  · have hk : k < rs.length := by simp at h; omega
    clear h
    obtain ⟨b, off, rfl, hrow⟩ := hR.row hk
    obtain ⟨q, cap2, hq1, hq2⟩ := hrow k hk
    refine zI ?_
    refine zE ?_
    refine zA ?_
    refine zH ?_
    refine zA ?_
    refine zB ?_
    iterate 2 refine wl_pure Tryz.hT rfl rfl rfl ?_
    refine wl_nil ?_
    refine zE ?_
    refine zA ?_
    refine zB ?_
    iterate 3 refine wl_pure Tryz.hT rfl rfl rfl ?_
    refine wl_indexAddr Tryz.hT rfl rfl rfl rfl rfl rfl rfl (by omega) (by omega) ?_
    refine wl_load rfl rfl rfl rfl (fun W hp => RowAt.load 0 Tryz.hT rfl ((fun W hp => hq1.hp hp) W hp) rfl) ?_
    refine wl_call1 (g := g) (v := .bool (f (rg rs k))) rfl rfl rfl rfl rfl rfl hE (fun W hp => hf W q cap2 (rg rs k) (hl _ (List.mem_of_getElem? (rg_get hk))) (hq2.hp hp)) ?_
    have hd : rs.drop k = rg rs k :: rs.drop (k + 1) := by
      rw [List.drop_eq_getElem_cons hk]; simp [rg, hk]
    have hstep : idxF f (rs.drop k) k = if f (rg rs k) = true then (k : Int) else idxF f (rs.drop (k + 1)) (k + 1) := by rw [hd]; rfl
    rw [hstep] at hi
    refine zC ?_
    refine zE ?_
    refine wc_cond rfl (fun h => ?_) (fun h => ?_)
    · refine zA ?_
      refine zB ?_
      iterate 2 refine wl_pure Tryz.hT rfl rfl rfl ?_
      refine wl_nil ?_
      refine zE ?_
      refine zO ?_
      refine zQ ?_
      iterate 2 refine zP ?_
      refine zQ ?_
      refine zP ?_
      rw [if_pos h] at hi
      exact ne_ret1 Tryz.hT rfl (.tmp rfl) () (by rw [hi]) trivial fun W _ => NewBx.nil _ _
    · refine zI ?_
      refine zN ?_
      refine zE ?_
      refine zB ?_
      iterate 2 refine wl_pure Tryz.hT rfl rfl rfl ?_
      refine wl_nil ?_
      rw [if_neg (by rw [h]; decide)] at hi
      exact ne_loop (k + 1) ⟨hk, hi⟩ (by omega) ⟨rfl, rfl, rfl, congrArg (fun z => some (Value.int .i64 z)) (wrap_id (x := (k : Int) + 1) (by omega) (by omega)), trivial⟩ [] rfl
theorem containsRg_gives (g : Nat) (hE : entersB Tryz.prog g = true) (f : List Sd → Bool) (hf : ∀ W p cap l, l.length < 4611686018427387904 → RingP W p l → CallsR Tryz.prog g #[slv p l.length cap] W (fun _ : Unit => .bool (f l)) (fun _ => True) (fun _ => [])) (W : World) (p : Option Addr) (cap : Nat) (rs : List (List Sd)) (hn : rs.length < 4611686018427387904) (hl : ∀ l ∈ rs, l.length < 4611686018427387904) (hR : RingsP W p rs) :
    CallsR Tryz.prog 92 #[slv p rs.length cap, .func (.func g) #[] #[]] W (fun _ : Unit => .bool (rs.any f)) (fun _ => True) (fun _ => []) := by
  refine calls_enter (args := [slv p rs.length cap, .func (.func g) #[] #[]]) Tryz.func92 rfl rfl rfl ?_
  refine zA ?_
  refine zB ?_
  refine wl_pure Tryz.hT rfl rfl rfl ?_
  refine zC ?_
  refine zE ?_
  refine zA ?_
  refine zB ?_
  iterate 2 refine wl_pure Tryz.hT rfl rfl rfl ?_
  refine wl_call1 rfl rfl rfl rfl rfl rfl (by kernel_rfl) (fun W hp => indexRg_gives g hE f hf W p cap rs hn hl (hR.below (Nat.le_refl _) hp.below)) ?_
  iterate 2 refine wl_pure Tryz.hT rfl rfl rfl ?_
  refine zC ?_
  refine zE ?_
  refine zO ?_
  exact ne_ret1 Tryz.hT rfl (.tmp rfl) () (by rw [idxF_any]) trivial fun W _ => NewBx.nil _ _
theorem check1_gives (s : Sd) : Gives Tryz.prog 90 [s.val] (.bool (!rgd s)) := by
  intro W
  refine calls_enter Tryz.func90 rfl rfl rfl ?_
  refine zA ?_
  refine zB ?_
  refine wl_box rfl rfl rfl rfl ?_
  intro
  refine wl_pure Tryz.hT rfl rfl rfl ?_
  refine zC ?_
  refine zE ?_
  refine zA ?_
  refine zB ?_
  refine wl_loadBx 0 Tryz.hT rfl rfl rfl rfl rfl rfl rfl rfl ?_
  refine wl_call1 rfl rfl rfl rfl rfl rfl (by kernel_rfl) (fun W _ => (ranged_gives ..)) ?_
  iterate 2 refine wl_pure Tryz.hT rfl rfl rfl ?_
  refine zC ?_
  refine zE ?_
  refine zO ?_
  exact ne_ret1 Tryz.hT rfl (.tmp rfl) () rfl trivial fun W _ => NewBx.nil _ _
theorem check2_gives (W : World) (p : Option Addr) (cap : Nat) (l : List Sd) (hn : l.length < 4611686018427387904) (hR : RingP W p l) :
    CallsR Tryz.prog 93 #[slv p l.length cap] W (fun _ : Unit => .bool (!shp l)) (fun _ => True) (fun _ => []) := by
  refine calls_enter (args := [slv p l.length cap]) Tryz.func93 rfl rfl rfl ?_
  refine zA ?_
  refine zB ?_
  refine wl_pure Tryz.hT rfl rfl rfl ?_
  refine zC ?_
  refine zE ?_
  refine zA ?_
  refine zB ?_
  refine wl_pure Tryz.hT rfl rfl rfl ?_
  refine wl_call1 rfl rfl rfl rfl rfl rfl (by kernel_rfl) (fun W hp => shaped_gives W p cap l hn (hR.hp hp)) ?_
  iterate 2 refine wl_pure Tryz.hT rfl rfl rfl ?_
  refine zC ?_
  refine zE ?_
  refine zO ?_
  exact ne_ret1 Tryz.hT rfl (.tmp rfl) () rfl trivial fun W _ => NewBx.nil _ _
end Go.Proofs.YtlagebbefnnnnaaGreatDoor
