/-
  PlanTexts returns true.
-/
import Derived.Test.YtnpfkmbcejgnjaaGreatDoorPrint
import Derived.Test.YtnpfkmbcejgnjaaGreatDoorParse
import Derived.Test.YtnpfkmbcejgnjaaGreatDoorAwake
import Derived.Test.YtnpfkmbcejgnjaaGreatDoorSdEq
namespace Go.Proofs.YtnpfkmbcejgnjaaGreatDoor
open Go Go.RowKit Go.Am Go.Lib
set_option maxRecDepth 10000
-- BOXES 4
def prT (rs : List (List Sd)) : List UInt8 := if chk rs = 0 then planText rs else []
def prE (rs : List (List Sd)) : Int := if chk rs = 0 then 0 else 1
theorem print_gives (W : World) (p : Option Addr) (cap : Nat) (rs : List (List Sd)) (hn : rs.length < 4611686018427387904) (hT : tot rs < 1099511627776) (hR : RingsP W p rs) (ht : TabP W) :
    CallsR Tryz.prog 33 #[planV p rs.length cap] W (fun _ : Unit => .tuple #[str (prT rs), .int .i64 (prE rs)]) (fun _ => True) (fun _ => []) := by
  by_cases hc : chk rs = 0
  · exact (print_ok W p cap rs hn hR hc ht).cast (by unfold prT prE; rw [if_pos hc, if_pos hc])
  · exact (print_no W p cap rs hn hT hR hc).cast (by unfold prT prE; rw [if_neg hc, if_neg hc])
theorem outP_print {rs : List (List Sd)} (hc : chk rs = 0) : outP (planText rs) = (rs, 0) := by
  unfold outP
  rw [parse_print fun l hl x hx => (okSd_of ((chk_parts hc).1 l hl x hx)).1]
  show (if _ then _ else _) = _
  rw [if_pos hc]
theorem outP_ok {s : List UInt8} (h : (outP s).2 = 0) : ∃ rs, outP s = (rs, 0) ∧ chk rs = 0 ∧ planText rs = s := by
  unfold outP at h ⊢
  cases hp : parseF [] s with
  | none => rw [hp] at h; cases h
  | some rs =>
    rw [hp] at h
    change (if chk rs = 0 then (rs, (0 : Int)) else ([], chk rs)).2 = 0 at h
    by_cases hc : chk rs = 0
    · refine ⟨rs, ?_, hc, ?_⟩
      · show (if _ then _ else _) = _
        rw [if_pos hc]
      · have := (parseF_text s.length (Nat.le_refl _) hp (fun l hl => by cases hl)).1
        rw [this]; rfl
    · rw [if_neg hc] at h; exact absurd h hc
theorem outP_bad {s : List UInt8} (h : (outP s).2 ≠ 0) : (outP s).1 = [] := by
  unfold outP at h ⊢
  cases hp : parseF [] s with
  | none => rfl
  | some rs =>
    rw [hp] at h
    change (if chk rs = 0 then (rs, (0 : Int)) else ([], chk rs)).2 ≠ 0 at h
    show (if chk rs = 0 then (rs, (0 : Int)) else ([], chk rs)).1 = []
    by_cases hc : chk rs = 0
    · rw [if_pos hc] at h; exact absurd rfl h
    · rw [if_neg hc]
theorem print_len {rs : List (List Sd)} (hc : chk rs = 0) : (planText rs).length ≤ 65536 := by
  obtain ⟨hne, hT, _⟩ := chk_ne hc
  have h1 := (txt_len (chk_parts hc).1 rs.length (Nat.le_refl _)).1
  have h2 := take_tot hne rs.length (Nat.le_refl _)
  rw [List.take_length] at h1 h2
  omega
set_option maxHeartbeats 8000000 in
theorem texts_gives (W : World) (p : Option Addr) (cap : Nat) (rs : List (List Sd)) (s : List UInt8) (hn : rs.length < 4611686018427387904) (hT : tot rs < 4611686018427387904) (hR : RingsP W p rs) (ht : TabP W) (hv : VarsP W) :
    CallsR Tryz.prog 8 #[planV p rs.length cap, str s] W (fun _ : Unit => .bool true) (fun _ => True) (fun _ => []) := by
  have hsz : ∀ l : List UInt8, (⟨l.toArray⟩ : ByteArray).size = l.length := fun l => by show l.toArray.size = _; simp
  refine calls_enter (args := [planV p rs.length cap, str s]) Tryz.func8 rfl rfl rfl ?_
  refine zA ?_
  refine zB ?_
  (refine wl_box rfl rfl rfl rfl ?_; intro)
  refine wl_pure Tryz.hT rfl rfl rfl ?_
  refine wl_nil ?_
  rename_i b2
  refine zE ?_
  refine zA ?_
  refine zA ?_
  refine zB ?_
  refine wl_loadBx 0 Tryz.hT rfl rfl rfl rfl rfl rfl rfl rfl ?_
  refine wl_call1 rfl rfl rfl rfl rfl rfl (by kernel_rfl) (fun W hp => great_gives W p cap rs 12 hn hT (hR.hp hp)) ?_
  refine wl_pure Tryz.hT rfl rfl rfl ?_
  refine wl_part 15 rfl (fun h15 => ?_) (fun h15 => ?_)
  · refine wl_skip rfl rfl ?_
    refine wl_skip rfl rfl ?_
    refine wl_skip rfl rfl ?_
    refine wl_pure Tryz.hT rfl rfl rfl ?_
    refine wl_nil ?_
    refine zE ?_
    refine zR rfl ?_
    refine zA ?_
    refine zB ?_
    refine wl_call1 rfl rfl rfl rfl rfl rfl (by kernel_rfl) (fun W hp => awake_gives W (ht.hp hp)) ?_
    refine wl_pure Tryz.hT rfl rfl rfl ?_
    refine wl_nil ?_
    refine zE ?_
    refine zO ?_
    refine zP ?_
    exact ne_ret1 Tryz.hT rfl (.tmp rfl) () rfl trivial fun W _ => NewBx.nil _ _
  have hgr : grt rs 12 = false := h15
  obtain ⟨hs1, hs2⟩ := grt_small hgr
  refine wl_pure Tryz.hT rfl rfl rfl ?_
  refine wl_pure Tryz.hT rfl rfl rfl ?_
  refine wl_pure Tryz.hT rfl rfl rfl ?_
  refine wl_pure Tryz.hT rfl rfl rfl ?_
  refine wl_nil ?_
  refine zE ?_
  refine wc_cond rfl (fun hlen => ?_) (fun hlen => ?_)
  · refine zA ?_
    refine zB ?_
    refine wl_call1 rfl rfl rfl rfl rfl rfl (by kernel_rfl) (fun W hp => awake_gives W (ht.hp hp)) ?_
    refine wl_pure Tryz.hT rfl rfl rfl ?_
    refine wl_nil ?_
    refine zE ?_
    refine zO ?_
    refine zP ?_
    exact ne_ret1 Tryz.hT rfl (.tmp rfl) () rfl trivial fun W _ => NewBx.nil _ _
  have hl : s.length ≤ 400 := by
    have h' : decide (((⟨s.toArray⟩ : ByteArray).size : Int) > 400) = false := hlen
    rw [hsz, decide_eq_false_iff_not] at h'
    omega
  clear hlen h15
  refine wc_skip ?_
  refine ne_then ?_
  refine wc_cut (X := Unit) (fun _ => [(1, str s), (2, .pointer (some ⟨b2, 0, none⟩)), (4, .bool false)]) (fun _ => [⟨b2, 24, [slv p rs.length cap], true, none⟩]) (fun _ => True) ?_ ?_
  · refine zA ?_
    refine zB ?_
    refine wl_loadBx 0 Tryz.hT rfl rfl rfl rfl rfl rfl rfl rfl ?_
    refine wl_call1 rfl rfl rfl rfl rfl rfl (by kernel_rfl) (fun W hp => print_gives W p cap rs hn (by omega) (hR.hp hp) (ht.hp hp)) ?_
    refine wl_pure Tryz.hT rfl rfl rfl ?_
    refine wl_pure Tryz.hT rfl rfl rfl ?_
    refine wl_pure Tryz.hT rfl rfl rfl ?_
    refine wl_pure Tryz.hT rfl rfl rfl ?_
    refine wl_pure Tryz.hT rfl rfl rfl ?_
    refine wl_nil ?_
    by_cases hc : chk rs = 0
    · rw [show prT rs = planText rs from if_pos hc, show prE rs = 0 from if_pos hc]
      refine zE ?_
      refine zA ?_
      refine zB ?_
      refine wl_pure Tryz.hT rfl rfl rfl ?_
      refine wl_pure Tryz.hT rfl rfl rfl ?_
      refine wl_nil ?_
      refine zE ?_
      refine zR rfl ?_
      refine zA ?_
      refine zB ?_
      refine wl_pure Tryz.hT rfl rfl rfl ?_
      refine wl_call (X := Vec × Made) rfl rfl rfl rfl rfl rfl (by kernel_rfl) (fun W hp => parse_gives W (planText rs) (print_len hc) (hv.hp hp) (ht.hp hp)) ?_
      rintro ⟨V, mk⟩ ⟨hmk, hV⟩
      simp only [outP_print hc] at hmk hV ⊢
      obtain ⟨q, cq, eq, fq⟩ := made_rings hmk hV
      refine wl_upd 30 (.tuple #[planV q rs.length cq, .int .i64 0]) rfl (by rw [eq]) ?_
      refine wl_pure Tryz.hT rfl rfl rfl ?_
      refine wl_pure Tryz.hT rfl rfl rfl ?_
      refine wl_pure Tryz.hT rfl rfl rfl ?_
      (refine wl_allocZ Tryz.hZ rfl rfl rfl rfl ?_; intro)
      refine wl_storeBx 3 Tryz.hT rfl rfl rfl rfl rfl rfl rfl rfl rfl rfl rfl ?_
      refine wl_pure Tryz.hT rfl rfl rfl ?_
      refine wl_nil ?_
      rename_i b7
      refine zE ?_
      refine zA ?_
      refine zB ?_
      refine wl_pure Tryz.hT rfl rfl rfl ?_
      refine wl_pure Tryz.hT rfl rfl rfl ?_
      refine wl_pure Tryz.hT rfl rfl rfl ?_
      refine wl_loadBx 0 Tryz.hT rfl rfl rfl rfl rfl rfl rfl rfl ?_
      refine wl_loadBx 3 Tryz.hT rfl rfl rfl rfl rfl rfl rfl rfl ?_
      refine wl_call1 rfl rfl rfl rfl rfl rfl (by kernel_rfl) (fun W hp => (same_gives W p q cap cq rs rs hn (fun l hl => by have := len_le_tot hl; omega) (hR.hp hp) (fq hp 1 2 rfl rfl)).cast (by rw [decide_eq_true rfl])) ?_
      refine wl_pure Tryz.hT rfl rfl rfl ?_
      refine wl_pure Tryz.hT rfl rfl rfl ?_
      refine wl_nil ?_
      refine zE ?_
      refine zS rfl ?_
      refine zI ?_
      exact ne_cutP () trivial ⟨rfl, rfl, rfl, trivial⟩ [0] (by decide) rfl
    · rw [show prT rs = [] from if_neg hc, show prE rs = 1 from if_neg hc]
      refine zE ?_
      refine zA ?_
      refine zB ?_
      refine wl_pure Tryz.hT rfl rfl rfl ?_
      refine wl_pure Tryz.hT rfl rfl rfl ?_
      refine wl_nil ?_
      refine zE ?_
      refine zS rfl ?_
      refine zA ?_
      refine zB ?_
      refine wl_pure Tryz.hT rfl rfl rfl ?_
      refine wl_pure Tryz.hT rfl rfl rfl ?_
      refine wl_pure Tryz.hT rfl rfl rfl ?_
      refine wl_loadBx 0 Tryz.hT rfl rfl rfl rfl rfl rfl rfl rfl ?_
      refine wl_call1 rfl rfl rfl rfl rfl rfl (by kernel_rfl) (fun W hp => check_gives W p cap rs hn (by omega) (hR.hp hp)) ?_
      refine wl_pure Tryz.hT rfl rfl rfl ?_
      refine wl_upd 46 (.bool false) rfl (congrArg Value.bool (show (chk rs == 0) = false by rw [beq_eq_false_iff_ne]; exact hc)) ?_
      refine wl_pure Tryz.hT rfl rfl rfl ?_
      refine wl_nil ?_
      refine zE ?_
      refine zS rfl ?_
      refine zI ?_
      exact ne_cutP () trivial ⟨rfl, rfl, rfl, trivial⟩ [0] (by decide) rfl
  intro _ _
  refine zA ?_
  refine zB ?_
  refine wl_pure Tryz.hT rfl rfl rfl ?_
  refine wl_call (X := Vec × Made) rfl rfl rfl rfl rfl rfl (by kernel_rfl) (fun W hp => parse_gives W s (by omega) (hv.hp hp) (ht.hp hp)) ?_
  rintro ⟨V, mk⟩ ⟨hmk, hV⟩
  by_cases he : (outP s).2 = 0
  rotate_left
  · have hb := outP_bad he
    simp only [hb] at hmk hV ⊢
    obtain ⟨q, cq, eq, fq⟩ := made_rings hmk hV
    refine wl_upd 50 (.tuple #[planV q 0 cq, .int .i64 (outP s).2]) rfl (by rw [show V.val [].length = slv q 0 cq from eq]) ?_
    refine wl_pure Tryz.hT rfl rfl rfl ?_
    refine wl_pure Tryz.hT rfl rfl rfl ?_
    refine wl_pure Tryz.hT rfl rfl rfl ?_
    (refine wl_allocZ Tryz.hZ rfl rfl rfl rfl ?_; intro)
    refine wl_storeBx 3 Tryz.hT rfl rfl rfl rfl rfl rfl rfl rfl rfl rfl rfl ?_
    refine wl_pure Tryz.hT rfl rfl rfl ?_
    refine wl_nil ?_
    rename_i b9
    refine zE ?_
    refine zA ?_
    refine zA ?_
    refine zB ?_
    refine wl_pure Tryz.hT rfl rfl rfl ?_
    refine wl_pure Tryz.hT rfl rfl rfl ?_
    refine wl_nil ?_
    refine zE ?_
    refine wc_cond rfl (fun hx => ?_) (fun hx => ?_)
    · refine zA ?_
      refine zB ?_
      refine wl_pure Tryz.hT rfl rfl rfl ?_
      refine wl_loadBx 3 Tryz.hT rfl rfl rfl rfl rfl rfl rfl rfl ?_
      refine wl_pure Tryz.hT rfl rfl rfl ?_
      refine wl_pure Tryz.hT rfl rfl rfl ?_
      refine wl_pure Tryz.hT rfl rfl rfl ?_
      refine wl_call1 rfl rfl rfl rfl rfl rfl (by kernel_rfl) (fun W hp => awake_gives W (ht.hp hp)) ?_
      refine wl_pure Tryz.hT rfl rfl rfl ?_
      refine wl_pure Tryz.hT rfl rfl rfl ?_
      refine wl_nil ?_
      refine zE ?_
      refine zO ?_
      refine zP ?_
      exact ne_ret1 Tryz.hT rfl (.tmp rfl) () rfl trivial fun W _ => NewBx.nil _ _
    · exact absurd (by have h' : ((outP s).2 != 0) = false := hx; simpa using h') he
  obtain ⟨rs', ho, hc', htx⟩ := outP_ok he
  obtain ⟨hne', hT', _⟩ := chk_ne hc'
  have hl' := take_tot hne' rs'.length (Nat.le_refl _)
  rw [List.take_length] at hl'
  simp only [ho] at hmk hV ⊢
  obtain ⟨q, cq, eq, fq⟩ := made_rings hmk hV
  refine wl_upd 50 (.tuple #[planV q rs'.length cq, .int .i64 0]) rfl (by rw [eq]) ?_
  refine wl_pure Tryz.hT rfl rfl rfl ?_
  refine wl_pure Tryz.hT rfl rfl rfl ?_
  refine wl_pure Tryz.hT rfl rfl rfl ?_
  (refine wl_allocZ Tryz.hZ rfl rfl rfl rfl ?_; intro)
  refine wl_storeBx 3 Tryz.hT rfl rfl rfl rfl rfl rfl rfl rfl rfl rfl rfl ?_
  refine wl_pure Tryz.hT rfl rfl rfl ?_
  refine wl_nil ?_
  rename_i b9
  refine zE ?_
  refine zA ?_
  refine zA ?_
  refine zB ?_
  refine wl_pure Tryz.hT rfl rfl rfl ?_
  refine wl_pure Tryz.hT rfl rfl rfl ?_
  refine wl_nil ?_
  refine zE ?_
  refine zS rfl ?_
  refine zI ?_
  refine zE ?_
  refine zA ?_
  refine zB ?_
  refine wl_loadBx 3 Tryz.hT rfl rfl rfl rfl rfl rfl rfl rfl ?_
  refine wl_call1 rfl rfl rfl rfl rfl rfl (by kernel_rfl) (fun W hp => (print_ok W q cq rs' (by omega) (fq hp 1 2 rfl rfl) hc' (ht.hp hp)).cast (by rw [htx])) ?_
  refine wl_pure Tryz.hT rfl rfl rfl ?_
  refine wl_pure Tryz.hT rfl rfl rfl ?_
  refine wl_pure Tryz.hT rfl rfl rfl ?_
  refine wl_pure Tryz.hT rfl rfl rfl ?_
  refine wl_pure Tryz.hT rfl rfl rfl ?_
  refine wl_nil ?_
  refine zE ?_
  refine zA ?_
  refine zB ?_
  refine wl_pure Tryz.hT rfl rfl rfl ?_
  refine wl_pure Tryz.hT rfl rfl rfl ?_
  refine wl_pure Tryz.hT rfl rfl rfl ?_
  refine wl_pure Tryz.hT rfl rfl rfl ?_
  refine wl_pure Tryz.hT rfl rfl rfl ?_
  refine wl_pure Tryz.hT rfl rfl rfl ?_
  refine wl_upd 72 (.bool true) rfl (congrArg Value.bool (by simp)) ?_
  refine wl_pure Tryz.hT rfl rfl rfl ?_
  refine wl_pure Tryz.hT rfl rfl rfl ?_
  refine wl_loadBx 3 Tryz.hT rfl rfl rfl rfl rfl rfl rfl rfl ?_
  refine wl_call1 rfl rfl rfl rfl rfl rfl (by kernel_rfl) (fun W hp => (check_gives W q cq rs' (by omega) (by omega) (fq hp 1 2 rfl rfl)).cast (by rw [hc'])) ?_
  refine wl_pure Tryz.hT rfl rfl rfl ?_
  refine wl_pure Tryz.hT rfl rfl rfl ?_
  refine wl_pure Tryz.hT rfl rfl rfl ?_
  refine wl_call1 rfl rfl rfl rfl rfl rfl (by kernel_rfl) (fun W hp => awake_gives W (ht.hp hp)) ?_
  refine wl_pure Tryz.hT rfl rfl rfl ?_
  refine wl_pure Tryz.hT rfl rfl rfl ?_
  refine wl_nil ?_
  refine zE ?_
  refine zO ?_
  exact ne_ret1 Tryz.hT rfl (.tmp rfl) () rfl trivial fun W _ => NewBx.nil _ _
end Go.Proofs.YtnpfkmbcejgnjaaGreatDoor
