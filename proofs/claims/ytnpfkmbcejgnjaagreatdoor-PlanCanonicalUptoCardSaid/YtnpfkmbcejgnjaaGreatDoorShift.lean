/-
  Plans shifted.
-/
import Derived.Test.YtnpfkmbcejgnjaaGreatDoorMoved
namespace Go.Proofs.YtnpfkmbcejgnjaaGreatDoor
open Go Go.RowKit Go.Am
set_option maxRecDepth 10000
-- BOXES 8
theorem bounded1_gives (s : Sd) : Gives Tryz.prog 120 [s.val] (.bool (!rgd s)) := by
  intro W
  refine calls_enter Tryz.func120 rfl rfl rfl ?_
  refine zA ?_
  refine zB ?_
  (refine wl_box rfl rfl rfl rfl ?_; intro)
  refine wl_pure Tryz.hT rfl rfl rfl ?_
  refine wl_nil ?_
  refine zE ?_
  refine zA ?_
  refine zB ?_
  refine wl_loadBx 0 Tryz.hT rfl rfl rfl rfl rfl rfl rfl rfl ?_
  refine wl_call1 rfl rfl rfl rfl rfl rfl (by kernel_rfl) (fun W _ => (ranged_gives ..)) ?_
  refine wl_pure Tryz.hT rfl rfl rfl ?_
  refine wl_pure Tryz.hT rfl rfl rfl ?_
  refine wl_nil ?_
  refine zE ?_
  refine zO ?_
  exact ne_ret1 Tryz.hT rfl (.tmp rfl) () rfl trivial fun W _ => NewBx.nil _ _
abbrev noPlan : Value := .agg #[.slice none 0 0]
theorem bounded_gives (W : World) (p : Option Addr) (cap : Nat) (rs : List (List Sd)) (hn : rs.length < 4611686018427387904) (hT : tot rs < 1099511627776) (hR : RingsP W p rs) (hne : ∀ l ∈ rs, l ≠ []) :
    CallsR Tryz.prog 69 #[planV p rs.length cap] W (fun _ : Unit => if rs.flatten.any (fun s => !rgd s) = true then .tuple #[noPlan, .int .i64 2] else .tuple #[planV p rs.length cap, .int .i64 0]) (fun _ => True) (fun _ => []) := by
  refine calls_enter (args := [planV p rs.length cap]) Tryz.func69 rfl rfl rfl ?_
  refine zA ?_
  refine zB ?_
  (refine wl_box rfl rfl rfl rfl ?_; intro)
  (refine wl_allocZ Tryz.hZ rfl rfl rfl rfl ?_; intro)
  refine wl_pure Tryz.hT rfl rfl rfl ?_
  refine wl_nil ?_
  refine zE ?_
  refine zA ?_
  refine zA ?_
  refine zB ?_
  refine wl_pure Tryz.hT rfl rfl rfl ?_
  refine wl_loadBx 0 Tryz.hT rfl rfl rfl rfl rfl rfl rfl rfl ?_
  refine wl_call (X := Vec) rfl rfl rfl rfl rfl rfl (by kernel_rfl) (fun W hp => concat_gives W p cap rs hn hT (hR.hp hp) hne) ?_
  intro V hV
  obtain ⟨q, cq, eV, hVR⟩ := Vec.ring hV
  have hfl : rs.flatten.length < 4611686018427387904 := by rw [flat_len]; omega
  refine wl_upd 6 _ rfl eV ?_
  refine wl_call1 rfl rfl rfl rfl rfl rfl (by kernel_rfl) (fun W hp => containsSd_gives 120 (by kernel_rfl) (fun s => !rgd s) bounded1_gives W q cq rs.flatten hfl (hVR hp 2 rfl)) ?_
  refine wl_nil ?_
  refine zE ?_
  refine wc_cond rfl (fun h => ?_) (fun h => ?_)
  · refine zA ?_
    refine zB ?_
    refine wl_buildZ Tryz.hZ Tryz.hT rfl rfl rfl rfl rfl rfl rfl rfl ?_
    refine wl_storeBx 1 Tryz.hT rfl rfl rfl rfl rfl rfl rfl rfl rfl rfl rfl ?_
    refine wl_pure Tryz.hT rfl rfl rfl ?_
    refine wl_nil ?_
    refine zE ?_
    refine zO ?_
    refine zP ?_
    exact ne_ret2 Tryz.hT rfl (.cell 1 rfl rfl rfl rfl rfl) (.tmp rfl) () (by rw [if_pos h]; rfl) trivial fun W _ => NewBx.nil _ _
  · refine zI ?_
    refine zE ?_
    refine zA ?_
    refine zB ?_
    refine wl_loadBx 0 Tryz.hT rfl rfl rfl rfl rfl rfl rfl rfl ?_
    refine wl_storeBx 1 Tryz.hT rfl rfl rfl rfl rfl rfl rfl rfl rfl rfl rfl ?_
    refine wl_pure Tryz.hT rfl rfl rfl ?_
    refine wl_nil ?_
    refine zE ?_
    refine zO ?_
    exact ne_ret2 Tryz.hT rfl (.cell 1 rfl rfl rfl rfl rfl) (.tmp rfl) () (by rw [if_neg (by rw [h]; decide)]; rfl) trivial fun W _ => NewBx.nil _ _
def shF (dx dy : Int) (x y : Int) : Int × Int := (w64 (x + dx), w64 (y + dy))
theorem shift1_gives (dx dy x y : Int) (W : World) (b1 b2 : Nat) (h1 : RowAt W b1 0 [.int .i64 dx]) (h2 : RowAt W b2 0 [.int .i64 dy]) :
    CallsR Tryz.prog 71 #[spot x y, .pointer (some ⟨b1, 0, none⟩), .pointer (some ⟨b2, 0, none⟩)] W (fun _ : Unit => spot (shF dx dy x y).1 (shF dx dy x y).2) (fun _ => True) (fun _ => []) := by
  refine calls_enter (args := [spot x y, .pointer (some ⟨b1, 0, none⟩), .pointer (some ⟨b2, 0, none⟩)]) Tryz.func71 rfl rfl rfl ?_
  refine zA ?_
  refine zB ?_
  (refine wl_box rfl rfl rfl rfl ?_; intro)
  (refine wl_allocZ Tryz.hZ rfl rfl rfl rfl ?_; intro)
  refine wl_nil ?_
  refine zE ?_
  refine zA ?_
  refine zB ?_
  refine wl_pure Tryz.hT rfl rfl rfl ?_
  refine wl_loadBx 0 Tryz.hT rfl rfl rfl rfl rfl rfl rfl rfl ?_
  refine wl_load rfl rfl rfl rfl (fun W hp => RowAt.load 0 Tryz.hT rfl ((fun W hp => h1.hp hp) W hp) rfl) ?_
  refine wl_pure Tryz.hT rfl rfl rfl ?_
  refine wl_pure Tryz.hT rfl rfl rfl ?_
  refine wl_loadBx 0 Tryz.hT rfl rfl rfl rfl rfl rfl rfl rfl ?_
  refine wl_load rfl rfl rfl rfl (fun W hp => RowAt.load 0 Tryz.hT rfl ((fun W hp => h2.hp hp) W hp) rfl) ?_
  refine wl_pure Tryz.hT rfl rfl rfl ?_
  refine wl_buildZ Tryz.hZ Tryz.hT rfl rfl rfl rfl rfl rfl rfl rfl ?_
  refine wl_storeBx 1 Tryz.hT rfl rfl rfl rfl rfl rfl rfl rfl rfl rfl rfl ?_
  refine wl_nil ?_
  refine zE ?_
  refine zO ?_
  exact ne_ret1 Tryz.hT rfl (.cell 1 rfl rfl rfl rfl rfl) () rfl trivial fun W _ => NewBx.nil _ _
/-- Are the numbers by which a plan is shifted too great. -/
def shFar (dx dy : Int) : Bool := decide ((if dy > dx then dy else dx) > 65536) || decide ((if dy < dx then dy else dx) < -65536)
/-- The error of Shift. -/
def shE (rs : List (List Sd)) (dx dy : Int) : Int :=
  if chk rs ≠ 0 then 1
  else if shFar dx dy = true then 2
  else if (mvR (shF dx dy) rs).flatten.any (fun s => !rgd s) = true then 2
  else 0
theorem tot_mvR (f : Int → Int → Int × Int) (rs : List (List Sd)) : tot (mvR f rs) = tot rs := by
  unfold tot mvR
  rw [List.map_map]
  congr 1
  apply List.map_congr_left
  intro l _
  simp
theorem mvR_len (f : Int → Int → Int × Int) (rs : List (List Sd)) : (mvR f rs).length = rs.length := by simp [mvR]
theorem mvR_ne {f : Int → Int → Int × Int} {rs : List (List Sd)} (h : ∀ l ∈ rs, l ≠ []) : ∀ l ∈ mvR f rs, l ≠ [] := fun l hl => by
  obtain ⟨l0, h1, rfl⟩ := List.mem_map.1 hl
  exact fun e => h l0 h1 (List.map_eq_nil_iff.1 e)
theorem shE_zero {rs : List (List Sd)} {dx dy : Int} (h : shE rs dx dy = 0) : chk rs = 0 ∧ shFar dx dy = false ∧ (mvR (shF dx dy) rs).flatten.any (fun s => !rgd s) = false := by
  unfold shE at h
  split at h
  · cases h
  · rename_i h1
    split at h
    · cases h
    · rename_i h2
      split at h
      · cases h
      · rename_i h3
        exact ⟨Classical.byContradiction h1, by simpa using h2, by simpa using h3⟩
set_option maxHeartbeats 4000000 in
theorem shift_ok (W : World) (p : Option Addr) (cap : Nat) (rs : List (List Sd)) (dx dy : Int) (hn : rs.length < 1099511627776) (hR : RingsP W p rs) (he : shE rs dx dy = 0) :
    CallsR Tryz.prog 26 #[planV p rs.length cap, .int .i64 dx, .int .i64 dy] W (fun x : Vec × Made => .tuple #[.agg #[x.1.val rs.length], .int .i64 0]) (fun x => MadeOK x.2 (mvR (shF dx dy) rs) ∧ x.1.OK 1 rs.length (rowCells x.2)) (fun x => [x.1.bx 27 (rowCells x.2), mkB x.2]) := by
  obtain ⟨hc, hf, h3⟩ := shE_zero he
  obtain ⟨hne, hT24, _⟩ := chk_ne hc
  have hT : tot rs < 1099511627776 := by omega
  unfold shFar at hf
  obtain ⟨h16', h17'⟩ := Bool.or_eq_false_iff.1 hf
  refine calls_enter (args := [planV p rs.length cap, .int .i64 dx, .int .i64 dy]) Tryz.func26 rfl rfl rfl ?_
  refine zA ?_
  refine zB ?_
  (refine wl_box rfl rfl rfl rfl ?_; intro)
  (refine wl_box rfl rfl rfl rfl ?_; intro)
  (refine wl_box rfl rfl rfl rfl ?_; intro)
  (refine wl_allocZ Tryz.hZ rfl rfl rfl rfl ?_; intro)
  refine wl_pure Tryz.hT rfl rfl rfl ?_
  refine wl_nil ?_
  rename_i b3 b4 b5 b6
  refine zE ?_
  refine zA ?_
  refine zA ?_
  refine zB ?_
  refine wl_loadBx 0 Tryz.hT rfl rfl rfl rfl rfl rfl rfl rfl ?_
  refine wl_call1 rfl rfl rfl rfl rfl rfl (by kernel_rfl) (fun W hp => (check_gives W p cap rs (by omega) hT (hR.hp hp)).cast (by rw [hc])) ?_
  refine wl_pure Tryz.hT rfl rfl rfl ?_
  refine wl_nil ?_
  refine zE ?_
  refine zS rfl ?_
  refine zI ?_
  refine zE ?_
  refine zA ?_
  refine zA ?_
  refine zB ?_
  refine wl_loadBx 1 Tryz.hT rfl rfl rfl rfl rfl rfl rfl rfl ?_
  refine wl_loadBx 2 Tryz.hT rfl rfl rfl rfl rfl rfl rfl rfl ?_
  refine wl_pure Tryz.hT rfl rfl rfl ?_
  refine wl_pure Tryz.hT rfl rfl rfl ?_
  refine wl_pure Tryz.hT rfl rfl rfl ?_
  refine wl_upd 16 (.bool false) rfl (congrArg Value.bool h16') ?_
  refine wl_loadBx 1 Tryz.hT rfl rfl rfl rfl rfl rfl rfl rfl ?_
  refine wl_loadBx 2 Tryz.hT rfl rfl rfl rfl rfl rfl rfl rfl ?_
  refine wl_pure Tryz.hT rfl rfl rfl ?_
  refine wl_pure Tryz.hT rfl rfl rfl ?_
  refine wl_pure Tryz.hT rfl rfl rfl ?_
  refine wl_nil ?_
  refine ne_then ?_
  refine wc_upd 21 (.bool false) rfl (congrArg Value.bool h17') ?_
  refine zS rfl ?_
  refine zI ?_
  refine zE ?_
  refine zA ?_
  refine zB ?_
  refine wl_loadBx 0 Tryz.hT rfl rfl rfl rfl rfl rfl rfl rfl ?_
  refine wl_pure Tryz.hT rfl rfl rfl ?_
  refine wl_call (X := Vec × Made) rfl rfl rfl rfl rfl rfl (by kernel_rfl) (fun W hp => moved_gives 71 (by kernel_rfl) [.pointer (some ⟨b4, 0, none⟩), .pointer (some ⟨b5, 0, none⟩)] (shF dx dy) W p cap rs hn hT (hR.hp hp) hne (fun W' hb x y => shift1_gives dx dy x y W' b4 b5 ((RowAt.of_bx hp 1 rfl rfl).below (Nat.le_refl _) hb) ((RowAt.of_bx hp 2 rfl rfl).below (Nat.le_refl _) hb))) ?_
  rintro ⟨V, mk⟩ ⟨hmk, hV⟩
  have hV' : V.OK 1 (mvR (shF dx dy) rs).length (rowCells mk) := by rw [mvR_len]; exact hV
  obtain ⟨q, cq, eV, hrings⟩ := made_rings hmk hV'
  refine wl_upd 25 (planV q (mvR (shF dx dy) rs).length cq) rfl (congrArg (fun v => Value.agg #[v]) (by rw [← eV, mvR_len])) ?_
  refine wl_call1 rfl rfl rfl rfl rfl rfl (by kernel_rfl) (fun W hp => (bounded_gives W q cq (mvR (shF dx dy) rs) (by rw [mvR_len]; omega) (by rw [tot_mvR]; exact hT) (hrings hp 4 5 rfl rfl) (mvR_ne hne)).cast (if_neg (by rw [h3]; decide))) ?_
  refine wl_pure Tryz.hT rfl rfl rfl ?_
  refine wl_pure Tryz.hT rfl rfl rfl ?_
  refine wl_storeBx 3 Tryz.hT rfl rfl rfl rfl rfl rfl rfl rfl rfl rfl rfl ?_
  refine wl_pure Tryz.hT rfl rfl rfl ?_
  refine wl_nil ?_
  refine zE ?_
  refine zO ?_
  exact ne_ret2 Tryz.hT rfl (.cell 3 rfl rfl rfl rfl rfl) (.tmp rfl) (V, mk) (by show Value.tuple #[.agg #[slv q _ cq], _] = .tuple #[.agg #[V.val rs.length], _]; rw [← eV, mvR_len]) ⟨hmk, hV⟩ fun W hp => (hp.pick [4, 5] (by decide) rfl).own
set_option maxHeartbeats 4000000 in
theorem shift_no (W : World) (p : Option Addr) (cap : Nat) (rs : List (List Sd)) (dx dy : Int) (hn : rs.length < 1099511627776) (hT : tot rs < 1099511627776) (hR : RingsP W p rs) (he : shE rs dx dy ≠ 0) :
    CallsR Tryz.prog 26 #[planV p rs.length cap, .int .i64 dx, .int .i64 dy] W (fun _ : Unit => .tuple #[noPlan, .int .i64 (shE rs dx dy)]) (fun _ => True) (fun _ => []) := by
  refine calls_enter (args := [planV p rs.length cap, .int .i64 dx, .int .i64 dy]) Tryz.func26 rfl rfl rfl ?_
  refine zA ?_
  refine zB ?_
  (refine wl_box rfl rfl rfl rfl ?_; intro)
  (refine wl_box rfl rfl rfl rfl ?_; intro)
  (refine wl_box rfl rfl rfl rfl ?_; intro)
  (refine wl_allocZ Tryz.hZ rfl rfl rfl rfl ?_; intro)
  refine wl_pure Tryz.hT rfl rfl rfl ?_
  refine wl_nil ?_
  rename_i b3 b4 b5 b6
  refine zE ?_
  refine zA ?_
  refine zA ?_
  refine zB ?_
  refine wl_loadBx 0 Tryz.hT rfl rfl rfl rfl rfl rfl rfl rfl ?_
  refine wl_call1 rfl rfl rfl rfl rfl rfl (by kernel_rfl) (fun W hp => check_gives W p cap rs (by omega) hT (hR.hp hp)) ?_
  refine wl_pure Tryz.hT rfl rfl rfl ?_
  refine wl_nil ?_
  refine zE ?_
  refine wc_cond rfl (fun h => ?_) (fun h => ?_)
  · have h : chk rs ≠ 0 := by have h' : (chk rs != 0) = true := h; simpa using h'
    refine zA ?_
    refine zB ?_
    refine wl_buildZ Tryz.hZ Tryz.hT rfl rfl rfl rfl rfl rfl rfl rfl ?_
    refine wl_storeBx 3 Tryz.hT rfl rfl rfl rfl rfl rfl rfl rfl rfl rfl rfl ?_
    refine wl_pure Tryz.hT rfl rfl rfl ?_
    refine wl_nil ?_
    refine zE ?_
    refine zO ?_
    refine zP ?_
    exact ne_ret2 Tryz.hT rfl (.cell 3 rfl rfl rfl rfl rfl) (.tmp rfl) () (by unfold shE; rw [if_pos h]; rfl) trivial fun W _ => NewBx.nil _ _
  have hc : chk rs = 0 := by have h' : (chk rs != 0) = false := h; simpa using h'
  clear h
  obtain ⟨hne, hT24, _⟩ := chk_ne hc
  have hN : ¬ (chk rs ≠ 0) := fun h => h hc
  refine zI ?_
  refine zE ?_
  refine zA ?_
  refine zA ?_
  refine zB ?_
  refine wl_loadBx 1 Tryz.hT rfl rfl rfl rfl rfl rfl rfl rfl ?_
  refine wl_loadBx 2 Tryz.hT rfl rfl rfl rfl rfl rfl rfl rfl ?_
  refine wl_pure Tryz.hT rfl rfl rfl ?_
  refine wl_pure Tryz.hT rfl rfl rfl ?_
  refine wl_pure Tryz.hT rfl rfl rfl ?_
  refine wl_part 16 rfl (fun h16 => ?_) (fun h16 => ?_)
  · have hfar : shFar dx dy = true := by have h' : decide ((if dy > dx then dy else dx) > 65536) = true := h16; unfold shFar; rw [h']; rfl
    refine wl_skip rfl rfl ?_
    refine wl_skip rfl rfl ?_
    refine wl_skip rfl rfl ?_
    refine wl_skip rfl rfl ?_
    refine wl_pure Tryz.hT rfl rfl rfl ?_
    refine wl_nil ?_
    refine zE ?_
    refine zR rfl ?_
    refine zA ?_
    refine zB ?_
    refine wl_buildZ Tryz.hZ Tryz.hT rfl rfl rfl rfl rfl rfl rfl rfl ?_
    refine wl_storeBx 3 Tryz.hT rfl rfl rfl rfl rfl rfl rfl rfl rfl rfl rfl ?_
    refine wl_pure Tryz.hT rfl rfl rfl ?_
    refine wl_nil ?_
    refine zE ?_
    refine zO ?_
    refine zP ?_
    exact ne_ret2 Tryz.hT rfl (.cell 3 rfl rfl rfl rfl rfl) (.tmp rfl) () (by unfold shE; rw [if_neg hN, if_pos hfar]; rfl) trivial fun W _ => NewBx.nil _ _
  have h16' : decide ((if dy > dx then dy else dx) > 65536) = false := h16
  refine wl_loadBx 1 Tryz.hT rfl rfl rfl rfl rfl rfl rfl rfl ?_
  refine wl_loadBx 2 Tryz.hT rfl rfl rfl rfl rfl rfl rfl rfl ?_
  refine wl_pure Tryz.hT rfl rfl rfl ?_
  refine wl_pure Tryz.hT rfl rfl rfl ?_
  refine wl_pure Tryz.hT rfl rfl rfl ?_
  refine wl_nil ?_
  refine zE ?_
  refine wc_cond rfl (fun h => ?_) (fun h => ?_)
  · have hfar : shFar dx dy = true := by have h' : decide ((if dy < dx then dy else dx) < -65536) = true := h; unfold shFar; rw [h', Bool.or_true]
    refine zA ?_
    refine zB ?_
    refine wl_buildZ Tryz.hZ Tryz.hT rfl rfl rfl rfl rfl rfl rfl rfl ?_
    refine wl_storeBx 3 Tryz.hT rfl rfl rfl rfl rfl rfl rfl rfl rfl rfl rfl ?_
    refine wl_pure Tryz.hT rfl rfl rfl ?_
    refine wl_nil ?_
    refine zE ?_
    refine zO ?_
    refine zP ?_
    exact ne_ret2 Tryz.hT rfl (.cell 3 rfl rfl rfl rfl rfl) (.tmp rfl) () (by unfold shE; rw [if_neg hN, if_pos hfar]; rfl) trivial fun W _ => NewBx.nil _ _
  have hfar : ¬ (shFar dx dy = true) := by have h' : decide ((if dy < dx then dy else dx) < -65536) = false := h; unfold shFar; rw [h16', h']; decide
  clear h
  refine zI ?_
  refine zE ?_
  refine zA ?_
  refine zB ?_
  refine wl_loadBx 0 Tryz.hT rfl rfl rfl rfl rfl rfl rfl rfl ?_
  refine wl_pure Tryz.hT rfl rfl rfl ?_
  refine wl_call (X := Vec × Made) rfl rfl rfl rfl rfl rfl (by kernel_rfl) (fun W hp => moved_gives 71 (by kernel_rfl) [.pointer (some ⟨b4, 0, none⟩), .pointer (some ⟨b5, 0, none⟩)] (shF dx dy) W p cap rs hn hT (hR.hp hp) hne (fun W' hb x y => shift1_gives dx dy x y W' b4 b5 ((RowAt.of_bx hp 1 rfl rfl).below (Nat.le_refl _) hb) ((RowAt.of_bx hp 2 rfl rfl).below (Nat.le_refl _) hb))) ?_
  rintro ⟨V, mk⟩ ⟨hmk, hV⟩
  have hV' : V.OK 1 (mvR (shF dx dy) rs).length (rowCells mk) := by rw [mvR_len]; exact hV
  obtain ⟨q, cq, eV, hrings⟩ := made_rings hmk hV'
  refine wl_upd 25 (planV q (mvR (shF dx dy) rs).length cq) rfl (congrArg (fun v => Value.agg #[v]) (by rw [← eV, mvR_len])) ?_
  have h3 : (mvR (shF dx dy) rs).flatten.any (fun s => !rgd s) = true := by
    cases h : (mvR (shF dx dy) rs).flatten.any (fun s => !rgd s) with
    | true => rfl
    | false => exact absurd (by unfold shE; rw [if_neg hN, if_neg hfar, if_neg (by rw [h]; decide)]) he
  refine wl_call1 rfl rfl rfl rfl rfl rfl (by kernel_rfl) (fun W hp => (bounded_gives W q cq (mvR (shF dx dy) rs) (by rw [mvR_len]; omega) (by rw [tot_mvR]; exact hT) (hrings hp 4 5 rfl rfl) (mvR_ne hne)).cast (if_pos h3)) ?_
  refine wl_pure Tryz.hT rfl rfl rfl ?_
  refine wl_pure Tryz.hT rfl rfl rfl ?_
  refine wl_storeBx 3 Tryz.hT rfl rfl rfl rfl rfl rfl rfl rfl rfl rfl rfl ?_
  refine wl_pure Tryz.hT rfl rfl rfl ?_
  refine wl_nil ?_
  refine zE ?_
  refine zO ?_
  exact ne_ret2 Tryz.hT rfl (.cell 3 rfl rfl rfl rfl rfl) (.tmp rfl) () (by unfold shE; rw [if_neg hN, if_neg hfar, if_pos h3]; rfl) trivial fun W _ => NewBx.nil _ _
end Go.Proofs.YtnpfkmbcejgnjaaGreatDoor
