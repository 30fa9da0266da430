/-
  Lemmas that the theorem frontLevels_upto_card needs (part 1 of 1).
-/
import Derived.Test.YteaiopkopifijaaGreatDoorMee
namespace Go.Proofs.YteaiopkopifijaaGreatDoor
open Go Go.RowKit Go.Am Go.Lib
set_option maxRecDepth 10000
-- BOXES 4
def FrP.speed (f : FrP) (t : Rat) : Rat := if t < f.st then 0 else f.sp
set_option maxHeartbeats 8000000 in
theorem fSpeed_gives (f : FrP) (h : f.OK) (t : Rat) (hz : szQ t 36) (W : World) (hv : MaxP W) (ht : TabP W) :
    CallsR Tryz.prog 17 #[frV f, str (numS t)] W (fun _ : Unit => .tuple #[str (numS (f.speed t)), .int .i64 0]) (fun _ => True) (fun _ => []) := by
  have z1 := sz2 hz h.st (by decide)
  refine calls_enter (args := [frV f, str (numS t)]) Tryz.func17 rfl rfl rfl ?_
  refine zA ?_
  refine zB ?_
  (refine wl_box rfl rfl rfl rfl ?_; intro)
  iterate 2 refine wl_pure Tryz.hT rfl rfl rfl ?_
  refine wl_nil ?_
  rename_i b2
  refine zE ?_
  iterate 2 refine zA ?_
  refine zB ?_
  refine wl_loadBx 0 Tryz.hT rfl rfl rfl rfl rfl rfl rfl rfl ?_
  refine wl_pure Tryz.hT rfl rfl rfl ?_
  refine wl_buildRowZ Tryz.hZ Tryz.hT rfl rfl rfl rfl rfl rfl rfl rfl rfl rfl rfl fun bS => ?_
  refine wl_call1 rfl rfl rfl rfl rfl rfl (by kernel_rfl) (fun W hp => fstart_gives f h t hz bS W (hv.hp hp) (ht.hp hp) (RowAt.of_bx hp 1 rfl rfl)) ?_
  refine wl_pure Tryz.hT rfl rfl rfl ?_
  refine wl_nil ?_
  refine zE ?_
  refine zA ?_
  refine zB ?_
  iterate 2 refine wl_pure Tryz.hT rfl rfl rfl ?_
  refine wl_nil ?_
  refine zE ?_
  refine zS rfl ?_
  refine zI ?_
  refine zE ?_
  iterate 2 refine zA ?_
  refine zB ?_
  iterate 2 refine wl_pure Tryz.hT rfl rfl rfl ?_
  refine wl_loadBx 0 Tryz.hT rfl rfl rfl rfl rfl rfl rfl rfl ?_
  refine wl_call1 rfl rfl rfl rfl rfl rfl (by kernel_rfl) (fun W hp => fcompare_gives t f.st z1 W (hv.hp hp) (ht.hp hp)) ?_
  refine wl_pure Tryz.hT rfl rfl rfl ?_
  refine wl_upd 18 (.bool (decide (t < f.st))) rfl (congrArg Value.bool (cmpQ_lt0 t f.st)) ?_
  refine wl_nil ?_
  refine zE ?_
  refine wc_cond rfl (fun hc => ?_) (fun hc => ?_)
  · have hc := of_decide_eq_true hc
    refine zA ?_
    refine zB ?_
    iterate 2 refine wl_pure Tryz.hT rfl rfl rfl ?_
    refine wl_nil ?_
    refine zE ?_
    refine zO ?_
    refine zP ?_
    exact ne_ret2 Tryz.hT rfl (.tmp rfl) (.tmp rfl) () (by rw [FrP.speed, if_pos hc, numS_zero]) trivial fun W _ => NewBx.nil _ _
  · have hc := of_decide_eq_false hc
    refine zI ?_
    refine zE ?_
    refine zA ?_
    refine zB ?_
    refine wl_pure Tryz.hT rfl rfl rfl ?_
    refine wl_loadBx 0 Tryz.hT rfl rfl rfl rfl rfl rfl rfl rfl ?_
    iterate 2 refine wl_pure Tryz.hT rfl rfl rfl ?_
    refine wl_nil ?_
    refine zE ?_
    refine zO ?_
    exact ne_ret2 Tryz.hT rfl (.tmp rfl) (.tmp rfl) () (by rw [FrP.speed, if_neg hc]) trivial fun W _ => NewBx.nil _ _
end Go.Proofs.YteaiopkopifijaaGreatDoor
namespace Go.Proofs.YteaiopkopifijaaGreatDoor
/-- How far a place lies ahead of the front's line. -/
def FrP.way (f : FrP) (x : Rat) : Rat := (f.hd : Rat) * (x - (f.pos : Rat))
/-- How long a front moves till a time. -/
def FrP.run (f : FrP) (t : Rat) : Rat := if t ≤ f.st then 0 else t - f.st
theorem FrP.OK.hd2 {f : FrP} (h : f.OK) : (f.hd : Rat) = 1 ∨ (f.hd : Rat) = -1 := by
  rcases h.hd with e | e
  · exact .inl (by rw [e]; rfl)
  · exact .inr (by rw [e]; rfl)
theorem sp_nonneg {q : Rat} (h : 0 ≤ q.num) : 0 ≤ q := Rat.num_nonneg.1 h
theorem at_way {f : FrP} (h : f.OK) (t : Rat) : (f.hd : Rat) * (f.at t - (f.pos : Rat)) = f.sp * f.run t := by
  unfold FrP.at FrP.run
  by_cases c : t ≤ f.st
  · rw [if_pos c, if_pos c]; grind
  · rw [if_neg c, if_neg c, FrP.vel]
    rcases h.hd2 with e | e <;> rw [e] <;> grind
theorem run_mono (f : FrP) {a b : Rat} (h : a ≤ b) : f.run a ≤ f.run b := by
  unfold FrP.run
  by_cases c : a ≤ f.st
  · rw [if_pos c]
    by_cases c2 : b ≤ f.st
    · rw [if_pos c2]; exact Rat.le_refl
    · rw [if_neg c2]; have := Rat.not_le.1 c2; grind
  · have c1 := Rat.not_le.1 c
    rw [if_neg c, if_neg (Rat.not_le.2 (show f.st < b by grind))]; grind
theorem level_law {f : FrP} (h : f.OK) (hn : 0 ≤ f.sp.num) {x : Rat} (h0 : f.sp ≠ 0) (hw : 0 ≤ f.way x) : f.at (f.st + f.way x / f.sp) = x := by
  have hs := sp_nonneg hn
  have hs0 : 0 < f.sp := Rat.lt_of_le_of_ne hs fun e => h0 e.symm
  obtain ⟨u, hu⟩ : ∃ u, u = f.way x / f.sp := ⟨_, rfl⟩
  have hus : u * f.sp = f.way x := by grind
  have hu0 : 0 ≤ u := by
    refine Rat.not_lt.1 fun e => ?_
    have := Rat.mul_pos (show 0 < -u by grind) hs0
    grind
  have e : f.at (f.st + u) = (f.pos : Rat) + f.vel * u := by
    rw [FrP.at_ge (show f.st ≤ f.st + u by grind)]; grind
  rw [← hu, e, FrP.vel]
  unfold FrP.way at hus
  rcases h.hd2 with e | e <;> rw [e] at hus ⊢ <;> grind
theorem order_law {f : FrP} (h : f.OK) (hn : 0 ≤ f.sp.num) {a b : Rat} (hab : a ≤ b) : cmpQ (f.at a) (f.at b) * f.hd ≤ 0 := by
  have h1 := at_way h a
  have h2 := at_way h b
  have h3 := run_mono f hab
  have h4 := Rat.mul_nonneg (sp_nonneg hn) (show 0 ≤ f.run b - f.run a by grind)
  rcases h.hd with e | e
  · rw [e] at h1 h2 ⊢
    have : ¬ f.at b < f.at a := Rat.not_lt.2 (by grind)
    unfold cmpQ
    by_cases c : f.at a < f.at b
    · rw [if_pos c]; decide
    · rw [if_neg c, if_pos (Rat.le_antisymm (Rat.not_lt.1 this) (Rat.not_lt.1 c))]; decide
  · rw [e] at h1 h2 ⊢
    have : ¬ f.at a < f.at b := Rat.not_lt.2 (by grind)
    unfold cmpQ
    rw [if_neg this]
    by_cases c : f.at a = f.at b
    · rw [if_pos c]; decide
    · rw [if_neg c]; decide
theorem moves_law {f : FrP} (h : f.OK) {a b : Rat} (hab : a < b) (hs : f.speed a ≠ 0) : cmpQ (f.at a) (f.at b) ≠ 0 := by
  have h1 := at_way h a
  have h2 := at_way h b
  unfold FrP.speed at hs
  by_cases c : a < f.st
  · rw [if_pos c] at hs; exact absurd rfl hs
  rw [if_neg c] at hs
  have c := Rat.not_lt.1 c
  have hr : f.run b - f.run a = b - a := by
    unfold FrP.run
    rw [if_neg (Rat.not_le.2 (show f.st < b by grind))]
    by_cases c2 : a ≤ f.st
    · rw [if_pos c2, Rat.le_antisymm c2 c]; grind
    · rw [if_neg c2]; grind
  have hne : f.at a ≠ f.at b := fun e => by
    rw [e] at h1
    have : f.sp * (b - a) = 0 := by grind
    rcases Rat.mul_eq_zero.1 this with e | e
    · exact hs e
    · grind
  unfold cmpQ
  by_cases c2 : f.at a < f.at b
  · rw [if_pos c2]; decide
  · rw [if_neg c2, if_neg hne]; decide
end Go.Proofs.YteaiopkopifijaaGreatDoor
namespace Go.Proofs.YteaiopkopifijaaGreatDoor
open Go Go.RowKit Go.Am Go.Lib
set_option maxRecDepth 10000
-- BOXES 4
/-- Whether a front reaches a place, and when. -/
def FrP.gets (f : FrP) (x : Rat) : Bool := decide (f.sp ≠ 0) && decide (0 ≤ f.way x)
def FrP.level (f : FrP) (x : Rat) : Value := if f.gets x = true then .tuple #[str (numS (f.st + f.way x / f.sp)), .int .i64 0] else .tuple #[str [], .int .i64 6]
theorem fcmp0_gives (p : Rat) (hz : Sz2 p 0) (W : World) (hv : MaxP W) (ht : TabP W) : CallsR Tryz.prog 50 #[str (numS p), str [48]] W (fun _ : Unit => .int .i64 (cmpQ p 0)) (fun _ => True) (fun _ => []) := by
  have h := fcompare_gives p 0 hz W hv ht
  rwa [numS_zero] at h
set_option maxHeartbeats 8000000 in
theorem fLevel_gives (f : FrP) (h : f.OK) (x : Rat) (a b k : Nat) (ha : szQ f.sp a) (hb : szQ f.st b) (hz : szQ x k) (hk : k ≤ 36) (hk2 : a + b + k + 9 ≤ 300) (W : World) (hv : MaxP W) (ht : TabP W) :
    CallsR Tryz.prog 25 #[frV f, str (numS x)] W (fun _ : Unit => f.level x) (fun _ => True) (fun _ => []) := by
  have z1 := sz2 hz h.posz (by omega)
  have z2 := hz.sub h.posz
  have z3 := sz2 h.hdz z2 (by omega)
  have z4 : szQ (f.way x) (1 + (k + 5 + 1)) := h.hdz.mul z2
  have z0 : szQ (0 : Rat) 1 := szQ_int (z := 0) (by decide) (by decide)
  have z5 := sz2 z4 z0 (by omega)
  have z6 := sz2 z4 ha (by omega)
  refine calls_enter (args := [frV f, str (numS x)]) Tryz.func25 rfl rfl rfl ?_
  repeat (first | refine zA ?_ | refine zB ?_ | refine zC ?_ | refine zD ?_ | refine zE ?_ | refine zF ?_ | refine zG ?_ | refine zH ?_ | refine zI ?_ | refine zJ ?_ | refine zK ?_ | refine zL ?_ | refine zM rfl ?_ | refine zN ?_ | refine zO ?_ | refine zP ?_ | refine zQ ?_ | refine zR rfl ?_ | refine zS rfl ?_ | refine zT Tryz.mixed (by kernel_rfl) ?_)
  (refine wl_box rfl rfl rfl rfl ?_; intro)
  iterate 2 refine wl_pure Tryz.hT rfl rfl rfl ?_
  refine wl_nil ?_
  rename_i b2
  repeat (first | refine zA ?_ | refine zB ?_ | refine zC ?_ | refine zD ?_ | refine zE ?_ | refine zF ?_ | refine zG ?_ | refine zH ?_ | refine zI ?_ | refine zJ ?_ | refine zK ?_ | refine zL ?_ | refine zM rfl ?_ | refine zN ?_ | refine zO ?_ | refine zP ?_ | refine zQ ?_ | refine zR rfl ?_ | refine zS rfl ?_ | refine zT Tryz.mixed (by kernel_rfl) ?_)
  (first | refine wl_loadBx 0 Tryz.hT rfl rfl rfl rfl rfl rfl rfl rfl ?_ | refine wl_loadBx 1 Tryz.hT rfl rfl rfl rfl rfl rfl rfl rfl ?_ | refine wl_loadBx 2 Tryz.hT rfl rfl rfl rfl rfl rfl rfl rfl ?_ | refine wl_loadBx 3 Tryz.hT rfl rfl rfl rfl rfl rfl rfl rfl ?_)
  refine wl_pure Tryz.hT rfl rfl rfl ?_
  refine wl_buildRowZ Tryz.hZ Tryz.hT rfl rfl rfl rfl rfl rfl rfl rfl rfl rfl rfl fun bS => ?_
  refine wl_call1 rfl rfl rfl rfl rfl rfl (by kernel_rfl) (fun W hp => fstart_gives f h x (hz.mono hk) bS W (hv.hp hp) (ht.hp hp) (RowAt.of_bx hp 1 rfl rfl)) ?_
  refine wl_pure Tryz.hT rfl rfl rfl ?_
  refine wl_nil ?_
  repeat (first | refine zA ?_ | refine zB ?_ | refine zC ?_ | refine zD ?_ | refine zE ?_ | refine zF ?_ | refine zG ?_ | refine zH ?_ | refine zI ?_ | refine zJ ?_ | refine zK ?_ | refine zL ?_ | refine zM rfl ?_ | refine zN ?_ | refine zO ?_ | refine zP ?_ | refine zQ ?_ | refine zR rfl ?_ | refine zS rfl ?_ | refine zT Tryz.mixed (by kernel_rfl) ?_)
  iterate 2 refine wl_pure Tryz.hT rfl rfl rfl ?_
  refine wl_nil ?_
  repeat (first | refine zA ?_ | refine zB ?_ | refine zC ?_ | refine zD ?_ | refine zE ?_ | refine zF ?_ | refine zG ?_ | refine zH ?_ | refine zI ?_ | refine zJ ?_ | refine zK ?_ | refine zL ?_ | refine zM rfl ?_ | refine zN ?_ | refine zO ?_ | refine zP ?_ | refine zQ ?_ | refine zR rfl ?_ | refine zS rfl ?_ | refine zT Tryz.mixed (by kernel_rfl) ?_)
  refine wq_pure Tryz.hT rfl rfl rfl ?_
  (first | refine wq_loadBx 0 Tryz.hT rfl rfl rfl rfl rfl rfl rfl rfl ?_ | refine wq_loadBx 1 Tryz.hT rfl rfl rfl rfl rfl rfl rfl rfl ?_ | refine wq_loadBx 2 Tryz.hT rfl rfl rfl rfl rfl rfl rfl rfl ?_ | refine wq_loadBx 3 Tryz.hT rfl rfl rfl rfl rfl rfl rfl rfl ?_)
  refine wq_call1 rfl rfl rfl rfl rfl rfl (by kernel_rfl) (fun W hp => fwhole_gives f.hd h.hd64 W (ht.hp hp)) ?_
  iterate 2 refine wq_pure Tryz.hT rfl rfl rfl ?_
  (first | refine wq_loadBx 0 Tryz.hT rfl rfl rfl rfl rfl rfl rfl rfl ?_ | refine wq_loadBx 1 Tryz.hT rfl rfl rfl rfl rfl rfl rfl rfl ?_ | refine wq_loadBx 2 Tryz.hT rfl rfl rfl rfl rfl rfl rfl rfl ?_ | refine wq_loadBx 3 Tryz.hT rfl rfl rfl rfl rfl rfl rfl rfl ?_)
  refine wq_call1 rfl rfl rfl rfl rfl rfl (by kernel_rfl) (fun W hp => fwhole_gives f.pos h.pos64 W (ht.hp hp)) ?_
  refine wq_call1 rfl rfl rfl rfl rfl rfl (by kernel_rfl) (fun W hp => fsub_gives x (f.pos : Rat) z1 W (hv.hp hp) (ht.hp hp)) ?_
  refine wq_call1 rfl rfl rfl rfl rfl rfl (by kernel_rfl) (fun W hp => fmul_gives (f.hd : Rat) (x - (f.pos : Rat)) z3 W (hv.hp hp) (ht.hp hp)) ?_
  refine wq_pure Tryz.hT rfl rfl rfl ?_
  refine wq_nil ?_
  refine wl_nil ?_
  repeat (first | refine zA ?_ | refine zB ?_ | refine zC ?_ | refine zD ?_ | refine zE ?_ | refine zF ?_ | refine zG ?_ | refine zH ?_ | refine zI ?_ | refine zJ ?_ | refine zK ?_ | refine zL ?_ | refine zM rfl ?_ | refine zN ?_ | refine zO ?_ | refine zP ?_ | refine zQ ?_ | refine zR rfl ?_ | refine zS rfl ?_ | refine zT Tryz.mixed (by kernel_rfl) ?_)
  refine wl_pure Tryz.hT rfl rfl rfl ?_
  (first | refine wl_loadBx 0 Tryz.hT rfl rfl rfl rfl rfl rfl rfl rfl ?_ | refine wl_loadBx 1 Tryz.hT rfl rfl rfl rfl rfl rfl rfl rfl ?_ | refine wl_loadBx 2 Tryz.hT rfl rfl rfl rfl rfl rfl rfl rfl ?_ | refine wl_loadBx 3 Tryz.hT rfl rfl rfl rfl rfl rfl rfl rfl ?_)
  refine wl_pure Tryz.hT rfl rfl rfl ?_
  by_cases c1 : f.sp = 0
  · have e : f.level x = .tuple #[str [], .int .i64 6] := if_neg (by simp [FrP.gets, c1])
    refine wl_upd 26 (.bool true) rfl (congrArg Value.bool ((strEqB _ _).trans (decide_eq_true (by rw [c1, numS_zero])))) ?_
    refine wl_pure Tryz.hT rfl rfl rfl ?_
    iterate 3 refine wl_skip rfl rfl ?_
    refine wl_pure Tryz.hT rfl rfl rfl ?_
    refine wl_nil ?_
    repeat (first | refine zA ?_ | refine zB ?_ | refine zC ?_ | refine zD ?_ | refine zE ?_ | refine zF ?_ | refine zG ?_ | refine zH ?_ | refine zI ?_ | refine zJ ?_ | refine zK ?_ | refine zL ?_ | refine zM rfl ?_ | refine zN ?_ | refine zO ?_ | refine zP ?_ | refine zQ ?_ | refine zR rfl ?_ | refine zS rfl ?_ | refine zT Tryz.mixed (by kernel_rfl) ?_)
    iterate 2 refine wl_pure Tryz.hT rfl rfl rfl ?_
    refine wl_nil ?_
    repeat (first | refine zA ?_ | refine zB ?_ | refine zC ?_ | refine zD ?_ | refine zE ?_ | refine zF ?_ | refine zG ?_ | refine zH ?_ | refine zI ?_ | refine zJ ?_ | refine zK ?_ | refine zL ?_ | refine zM rfl ?_ | refine zN ?_ | refine zO ?_ | refine zP ?_ | refine zQ ?_ | refine zR rfl ?_ | refine zS rfl ?_ | refine zT Tryz.mixed (by kernel_rfl) ?_)
    exact ne_ret2 Tryz.hT rfl (.tmp rfl) (.tmp rfl) () e.symm trivial fun W _ => NewBx.nil _ _
  · refine wl_upd 26 (.bool false) rfl (congrArg Value.bool ((strEqB _ _).trans ((numS_eq0 f.sp).trans (decide_eq_false c1)))) ?_
    refine wl_pure Tryz.hT rfl rfl rfl ?_
    (first | refine wl_pure Tryz.hT rfl rfl rfl ?_ | refine wl_skip rfl rfl ?_)
    refine wl_call1 rfl rfl rfl rfl rfl rfl (by kernel_rfl) (fun W hp => fcmp0_gives (f.way x) z5 W (hv.hp hp) (ht.hp hp)) ?_
    refine wl_pure Tryz.hT rfl rfl rfl ?_
    refine wl_upd 30 (.bool (decide (f.way x < 0))) rfl (congrArg Value.bool (cmpQ_lt0 (f.way x) 0)) ?_
    by_cases c2 : f.way x < 0
    · have e : f.level x = .tuple #[str [], .int .i64 6] := if_neg (by simp [FrP.gets, Rat.not_le.2 c2])
      refine wl_upd 30 (.bool true) rfl (congrArg Value.bool (decide_eq_true c2)) ?_
      refine wl_pure Tryz.hT rfl rfl rfl ?_
      refine wl_nil ?_
      repeat (first | refine zA ?_ | refine zB ?_ | refine zC ?_ | refine zD ?_ | refine zE ?_ | refine zF ?_ | refine zG ?_ | refine zH ?_ | refine zI ?_ | refine zJ ?_ | refine zK ?_ | refine zL ?_ | refine zM rfl ?_ | refine zN ?_ | refine zO ?_ | refine zP ?_ | refine zQ ?_ | refine zR rfl ?_ | refine zS rfl ?_ | refine zT Tryz.mixed (by kernel_rfl) ?_)
      iterate 2 refine wl_pure Tryz.hT rfl rfl rfl ?_
      refine wl_nil ?_
      repeat (first | refine zA ?_ | refine zB ?_ | refine zC ?_ | refine zD ?_ | refine zE ?_ | refine zF ?_ | refine zG ?_ | refine zH ?_ | refine zI ?_ | refine zJ ?_ | refine zK ?_ | refine zL ?_ | refine zM rfl ?_ | refine zN ?_ | refine zO ?_ | refine zP ?_ | refine zQ ?_ | refine zR rfl ?_ | refine zS rfl ?_ | refine zT Tryz.mixed (by kernel_rfl) ?_)
      exact ne_ret2 Tryz.hT rfl (.tmp rfl) (.tmp rfl) () e.symm trivial fun W _ => NewBx.nil _ _
    · have e : f.level x = .tuple #[str (numS (f.st + f.way x / f.sp)), .int .i64 0] := if_pos (by simp [FrP.gets, c1, Rat.not_lt.1 c2])
      have z7 := z4.div ha (num_ne c1)
      have z8 := sz2 hb z7 (by omega)
      refine wl_upd 30 (.bool false) rfl (congrArg Value.bool (decide_eq_false c2)) ?_
      refine wl_pure Tryz.hT rfl rfl rfl ?_
      refine wl_nil ?_
      repeat (first | refine zA ?_ | refine zB ?_ | refine zC ?_ | refine zD ?_ | refine zE ?_ | refine zF ?_ | refine zG ?_ | refine zH ?_ | refine zI ?_ | refine zJ ?_ | refine zK ?_ | refine zL ?_ | refine zM rfl ?_ | refine zN ?_ | refine zO ?_ | refine zP ?_ | refine zQ ?_ | refine zR rfl ?_ | refine zS rfl ?_ | refine zT Tryz.mixed (by kernel_rfl) ?_)
      refine wq_pure Tryz.hT rfl rfl rfl ?_
      (first | refine wq_loadBx 0 Tryz.hT rfl rfl rfl rfl rfl rfl rfl rfl ?_ | refine wq_loadBx 1 Tryz.hT rfl rfl rfl rfl rfl rfl rfl rfl ?_ | refine wq_loadBx 2 Tryz.hT rfl rfl rfl rfl rfl rfl rfl rfl ?_ | refine wq_loadBx 3 Tryz.hT rfl rfl rfl rfl rfl rfl rfl rfl ?_)
      iterate 2 refine wq_pure Tryz.hT rfl rfl rfl ?_
      (first | refine wq_loadBx 0 Tryz.hT rfl rfl rfl rfl rfl rfl rfl rfl ?_ | refine wq_loadBx 1 Tryz.hT rfl rfl rfl rfl rfl rfl rfl rfl ?_ | refine wq_loadBx 2 Tryz.hT rfl rfl rfl rfl rfl rfl rfl rfl ?_ | refine wq_loadBx 3 Tryz.hT rfl rfl rfl rfl rfl rfl rfl rfl ?_)
      refine wq_call1 rfl rfl rfl rfl rfl rfl (by kernel_rfl) (fun W hp => fdiv_gives (f.way x) f.sp z6 (num_ne c1) W (hv.hp hp) (ht.hp hp)) ?_
      refine wq_call1 rfl rfl rfl rfl rfl rfl (by kernel_rfl) (fun W hp => fadd_gives f.st (f.way x / f.sp) z8 W (hv.hp hp) (ht.hp hp)) ?_
      iterate 2 refine wq_pure Tryz.hT rfl rfl rfl ?_
      refine wq_nil ?_
      refine wl_nil ?_
      repeat (first | refine zA ?_ | refine zB ?_ | refine zC ?_ | refine zD ?_ | refine zE ?_ | refine zF ?_ | refine zG ?_ | refine zH ?_ | refine zI ?_ | refine zJ ?_ | refine zK ?_ | refine zL ?_ | refine zM rfl ?_ | refine zN ?_ | refine zO ?_ | refine zP ?_ | refine zQ ?_ | refine zR rfl ?_ | refine zS rfl ?_ | refine zT Tryz.mixed (by kernel_rfl) ?_)
      exact ne_ret2 Tryz.hT rfl (.tmp rfl) (.tmp rfl) () e.symm trivial fun W _ => NewBx.nil _ _
end Go.Proofs.YteaiopkopifijaaGreatDoor
namespace Go.Proofs.YteaiopkopifijaaGreatDoor
open Go Go.RowKit Go.Am Go.Lib
set_option maxRecDepth 10000
-- BOXES 4
theorem way_in (f : FrP) (c : Int) : 0 ≤ f.way (nrm c 4) ↔ 0 ≤ (c - 4 * f.pos) * f.hd := by
  have h : ((0 : Int) : Rat) ≤ (((c - 4 * f.pos) * f.hd : Int) : Rat) ↔ 0 ≤ (c - 4 * f.pos) * f.hd := Rat.intCast_le_intCast
  rw [Rat.intCast_mul, Rat.intCast_sub, Rat.intCast_mul] at h
  rw [← h, FrP.way, qtr_eq]
  have e : ((4 : Int) : Rat) = 4 := rfl
  have e0 : ((0 : Int) : Rat) = 0 := rfl
  rw [e, e0]
  have e2 : ((c : Rat) - 4 * (f.pos : Rat)) * (f.hd : Rat) = 4 * ((f.hd : Rat) * ((c : Rat) / 4 - (f.pos : Rat))) := by grind
  rw [e2]
  constructor <;> intro h <;> grind
def FrP.levS (f : FrP) (x : Rat) : List UInt8 := if f.gets x = true then numS (f.st + f.way x / f.sp) else []
def FrP.levE (f : FrP) (x : Rat) : Int := if f.gets x = true then 0 else 6
theorem level_eq (f : FrP) (x : Rat) : f.level x = .tuple #[str (f.levS x), .int .i64 (f.levE x)] := by
  unfold FrP.level FrP.levS FrP.levE
  split <;> rfl
theorem gets_iff {f : FrP} {x : Rat} : f.gets x = true ↔ f.sp ≠ 0 ∧ 0 ≤ f.way x := by simp [FrP.gets]
theorem cmpQ_rng (p q : Rat) : -1 ≤ cmpQ p q ∧ cmpQ p q ≤ 1 := by
  unfold cmpQ
  split
  · decide
  · split <;> decide
set_option maxHeartbeats 16000000 in
theorem levelsF_gives (x : SmP) (hx : x.OK) (c : Int) (hc : -32768 ≤ c ∧ c ≤ 32767) (a b : Nat) (ha : a < 65536) (hb : b < 65536) (W : World) (hv : MaxP W) (ht : TabP W) :
    CallsR Tryz.prog 6 #[smV x, .int .i16 c, .int .u16 (a : Nat), .int .u16 (b : Nat)] W (fun _ : Unit => .bool true) (fun _ => True) (fun _ => []) := by
  have hsm := hx.sm
  have hok := hx.fr
  have hnn := hok.sp0
  obtain ⟨lo, hlo⟩ : ∃ lo, lo = min a b := ⟨_, rfl⟩
  obtain ⟨hi, hhi⟩ : ∃ hi, hi = max a b := ⟨_, rfl⟩
  have hl : lo ≤ hi ∧ hi < 65536 := by omega
  obtain ⟨f, hf⟩ : ∃ f, f = x.of := ⟨_, rfl⟩
  obtain ⟨p, hp0⟩ : ∃ p, p = nrm c 4 := ⟨_, rfl⟩
  obtain ⟨t1, h1⟩ : ∃ t, t = nrm (lo : Nat) 4 := ⟨_, rfl⟩
  obtain ⟨t2, h2⟩ : ∃ t, t = nrm (hi : Nat) 4 := ⟨_, rfl⟩
  have hlof : ∀ W, TabP W → CallsR Tryz.prog 13 #[smV x] W (fun _ : Unit => frV f) (fun _ => True) (fun _ => []) := fun W ht => by rw [hf]; exact lof_gives x hx W ht
  rw [← hf] at hsm hok hnn
  have zp : szQ p 5 := hp0 ▸ qtr_sz (by show _ < 100000; omega) (by decide)
  have z1 : szQ t1 5 := h1 ▸ qtr_sz (by rw [Int.natAbs_natCast]; show _ < 100000; omega) (by decide)
  have z2 : szQ t2 5 := h2 ▸ qtr_sz (by rw [Int.natAbs_natCast]; show _ < 100000; omega) (by decide)
  have y1 := at_sz hsm z1
  have y2 := at_sz hsm z2
  have zw : szQ (f.way p) 12 := hok.hdz.mul (zp.sub hok.posz)
  have hle : t1 ≤ t2 := by rw [h1, h2]; exact qtr_le (by omega)
  have hd1 : f.hd = 1 ∨ f.hd = -1 := hok.hd
  have hps := hok.p0
  have hps1 := hok.p1
  have hcr := cmpQ_rng (f.at t1) (f.at t2)
  have hord := order_law hok hnn hle
  have hin : f.gets p = (decide (f.sp ≠ 0) && decide (0 ≤ (c - 4 * f.pos) * f.hd)) := by
    unfold FrP.gets; congr 1; rw [decide_eq_decide, hp0]; exact way_in f c
  refine calls_enter (args := [smV x, .int .i16 c, .int .u16 (a : Nat), .int .u16 (b : Nat)]) Tryz.func6 rfl rfl rfl ?_
  repeat (first | refine zA ?_ | refine zB ?_ | refine zC ?_ | refine zD ?_ | refine zE ?_ | refine zF ?_ | refine zG ?_ | refine zH ?_ | refine zI ?_ | refine zJ ?_ | refine zK ?_ | refine zL ?_ | refine zM rfl ?_ | refine zN ?_ | refine zO ?_ | refine zP ?_ | refine zQ ?_ | refine zR rfl ?_ | refine zS rfl ?_ | refine zT Tryz.mixed (by kernel_rfl) ?_)
  (refine wl_box rfl rfl rfl rfl ?_; intro)
  refine wl_pure Tryz.hT rfl rfl rfl ?_
  refine wl_nil ?_
  rename_i b4
  repeat (first | refine zA ?_ | refine zB ?_ | refine zC ?_ | refine zD ?_ | refine zE ?_ | refine zF ?_ | refine zG ?_ | refine zH ?_ | refine zI ?_ | refine zJ ?_ | refine zK ?_ | refine zL ?_ | refine zM rfl ?_ | refine zN ?_ | refine zO ?_ | refine zP ?_ | refine zQ ?_ | refine zR rfl ?_ | refine zS rfl ?_ | refine zT Tryz.mixed (by kernel_rfl) ?_)
  (first | refine wl_loadBx 0 Tryz.hT rfl rfl rfl rfl rfl rfl rfl rfl ?_ | refine wl_loadBx 1 Tryz.hT rfl rfl rfl rfl rfl rfl rfl rfl ?_ | refine wl_loadBx 2 Tryz.hT rfl rfl rfl rfl rfl rfl rfl rfl ?_ | refine wl_loadBx 3 Tryz.hT rfl rfl rfl rfl rfl rfl rfl rfl ?_)
  refine wl_call1 rfl rfl rfl rfl rfl rfl (by kernel_rfl) (fun W hp => hlof W (ht.hp hp)) ?_
  (refine wl_allocZ Tryz.hZ rfl rfl rfl rfl ?_; intro)
  (first | refine wl_storeBx 0 Tryz.hT rfl rfl rfl rfl rfl rfl rfl rfl rfl rfl rfl ?_ | refine wl_storeBx 1 Tryz.hT rfl rfl rfl rfl rfl rfl rfl rfl rfl rfl rfl ?_ | refine wl_storeBx 2 Tryz.hT rfl rfl rfl rfl rfl rfl rfl rfl rfl rfl rfl ?_ | refine wl_storeBx 3 Tryz.hT rfl rfl rfl rfl rfl rfl rfl rfl rfl rfl rfl ?_)
  refine wl_nil ?_
  rename_i b9
  repeat (first | refine zA ?_ | refine zB ?_ | refine zC ?_ | refine zD ?_ | refine zE ?_ | refine zF ?_ | refine zG ?_ | refine zH ?_ | refine zI ?_ | refine zJ ?_ | refine zK ?_ | refine zL ?_ | refine zM rfl ?_ | refine zN ?_ | refine zO ?_ | refine zP ?_ | refine zQ ?_ | refine zR rfl ?_ | refine zS rfl ?_ | refine zT Tryz.mixed (by kernel_rfl) ?_)
  refine wl_pure Tryz.hT rfl rfl rfl ?_
  refine wl_cvA Tryz.underlying48 Tryz.underlying3 rfl rfl rfl rfl ?_
  refine wl_upd 29 (.int .i64 c) rfl (congrArg (Value.int .i64) (w64_id (by omega) (by omega))) ?_
  refine wl_call1 rfl rfl rfl rfl rfl rfl (by kernel_rfl) (fun W hp => (lnum_gives c 4 (by decide) (by omega) (by decide) W (ht.hp hp)).cast (by rw [← hp0])) ?_
  refine wl_pure Tryz.hT rfl rfl rfl ?_
  refine wl_nil ?_
  repeat (first | refine zA ?_ | refine zB ?_ | refine zC ?_ | refine zD ?_ | refine zE ?_ | refine zF ?_ | refine zG ?_ | refine zH ?_ | refine zI ?_ | refine zJ ?_ | refine zK ?_ | refine zL ?_ | refine zM rfl ?_ | refine zN ?_ | refine zO ?_ | refine zP ?_ | refine zQ ?_ | refine zR rfl ?_ | refine zS rfl ?_ | refine zT Tryz.mixed (by kernel_rfl) ?_)
  (first | refine wl_loadBx 0 Tryz.hT rfl rfl rfl rfl rfl rfl rfl rfl ?_ | refine wl_loadBx 1 Tryz.hT rfl rfl rfl rfl rfl rfl rfl rfl ?_ | refine wl_loadBx 2 Tryz.hT rfl rfl rfl rfl rfl rfl rfl rfl ?_ | refine wl_loadBx 3 Tryz.hT rfl rfl rfl rfl rfl rfl rfl rfl ?_)
  refine wl_pure Tryz.hT rfl rfl rfl ?_
  refine wl_call1 rfl rfl rfl rfl rfl rfl (by kernel_rfl) (fun W hp => (fLevel_gives f hok p 1 3 5 hsm.sp hsm.st zp (by decide) (by decide) W (hv.hp hp) (ht.hp hp)).cast (level_eq f p)) ?_
  iterate 5 refine wl_pure Tryz.hT rfl rfl rfl ?_
  refine wl_nil ?_
  repeat (first | refine zA ?_ | refine zB ?_ | refine zC ?_ | refine zD ?_ | refine zE ?_ | refine zF ?_ | refine zG ?_ | refine zH ?_ | refine zI ?_ | refine zJ ?_ | refine zK ?_ | refine zL ?_ | refine zM rfl ?_ | refine zN ?_ | refine zO ?_ | refine zP ?_ | refine zQ ?_ | refine zR rfl ?_ | refine zS rfl ?_ | refine zT Tryz.mixed (by kernel_rfl) ?_)
  iterate 2 refine wl_pure Tryz.hT rfl rfl rfl ?_
  refine wl_upd 38 (.bool (f.gets p)) rfl (congrArg Value.bool (by show ((f.levE p) == 0) = _; unfold FrP.levE; cases f.gets p <;> rfl)) ?_
  refine wl_nil ?_
  refine ne_then ?_
  try refine wc_seq ?_
  refine wc_cutS (X := Unit) (fun _ => [(1, .int .i16 c), (2, .int .u16 (a : Nat)), (3, .int .u16 (b : Nat)), (9, selfP b9), (12, .int .i64 (f.levE p))]) (fun _ => [smB b4 x, ⟨b9, 30, (frV f).cells.toList, true, none⟩]) (fun _ => True) ?_ ?_
  · refine wc_cond rfl (fun hg => ?_) (fun hg => ?_)
    · have hg : f.gets p = true := hg
      obtain ⟨g1, g2⟩ := gets_iff.1 hg
      have eS : f.levS p = numS (f.st + f.way p / f.sp) := if_pos hg
      have zt : szQ (f.st + f.way p / f.sp) 17 := hsm.st.add (zw.div hsm.sp (num_ne g1))
      repeat (first | refine zA ?_ | refine zB ?_ | refine zC ?_ | refine zD ?_ | refine zE ?_ | refine zF ?_ | refine zG ?_ | refine zH ?_ | refine zI ?_ | refine zJ ?_ | refine zK ?_ | refine zL ?_ | refine zM rfl ?_ | refine zN ?_ | refine zO ?_ | refine zP ?_ | refine zQ ?_ | refine zR rfl ?_ | refine zS rfl ?_ | refine zT Tryz.mixed (by kernel_rfl) ?_)
      (first | refine wl_loadBx 0 Tryz.hT rfl rfl rfl rfl rfl rfl rfl rfl ?_ | refine wl_loadBx 1 Tryz.hT rfl rfl rfl rfl rfl rfl rfl rfl ?_ | refine wl_loadBx 2 Tryz.hT rfl rfl rfl rfl rfl rfl rfl rfl ?_ | refine wl_loadBx 3 Tryz.hT rfl rfl rfl rfl rfl rfl rfl rfl ?_)
      refine wl_pure Tryz.hT rfl rfl rfl ?_
      refine wl_upd 41 (str (numS (f.st + f.way p / f.sp))) rfl (by rw [eS]) ?_
      refine wl_call1 rfl rfl rfl rfl rfl rfl (by kernel_rfl) (fun W hp => (fPos_gives f hok (f.st + f.way p / f.sp) (zt.mono (by decide)) W (hv.hp hp) (ht.hp hp)).cast (by rw [level_law hok hnn g1 g2])) ?_
      iterate 5 refine wl_pure Tryz.hT rfl rfl rfl ?_
      refine wl_nil ?_
      repeat (first | refine zA ?_ | refine zB ?_ | refine zC ?_ | refine zD ?_ | refine zE ?_ | refine zF ?_ | refine zG ?_ | refine zH ?_ | refine zI ?_ | refine zJ ?_ | refine zK ?_ | refine zL ?_ | refine zM rfl ?_ | refine zN ?_ | refine zO ?_ | refine zP ?_ | refine zQ ?_ | refine zR rfl ?_ | refine zS rfl ?_ | refine zT Tryz.mixed (by kernel_rfl) ?_)
      iterate 3 refine wl_pure Tryz.hT rfl rfl rfl ?_
      (first | refine wl_pure Tryz.hT rfl rfl rfl ?_ | refine wl_skip rfl rfl ?_)
      (first | refine wl_pure Tryz.hT rfl rfl rfl ?_ | refine wl_skip rfl rfl ?_)
      refine wl_pure Tryz.hT rfl rfl rfl ?_
      refine wl_upd 50 (.bool false) rfl (congrArg Value.bool (by show (!_) = false; rw [strEqB, decide_eq_true rfl]; rfl)) ?_
      refine wl_pure Tryz.hT rfl rfl rfl ?_
      refine wl_nil ?_
      repeat (first | refine zA ?_ | refine zB ?_ | refine zC ?_ | refine zD ?_ | refine zE ?_ | refine zF ?_ | refine zG ?_ | refine zH ?_ | refine zI ?_ | refine zJ ?_ | refine zK ?_ | refine zL ?_ | refine zM rfl ?_ | refine zN ?_ | refine zO ?_ | refine zP ?_ | refine zQ ?_ | refine zR rfl ?_ | refine zS rfl ?_ | refine zT Tryz.mixed (by kernel_rfl) ?_)
      exact ne_cut () trivial ⟨rfl, rfl, rfl, rfl, rfl, trivial⟩ [] rfl
    · have hg : f.gets p = false := hg
      have eE : f.levE p = 6 := if_neg (by rw [hg]; decide)
      repeat (first | refine zA ?_ | refine zB ?_ | refine zC ?_ | refine zD ?_ | refine zE ?_ | refine zF ?_ | refine zG ?_ | refine zH ?_ | refine zI ?_ | refine zJ ?_ | refine zK ?_ | refine zL ?_ | refine zM rfl ?_ | refine zN ?_ | refine zO ?_ | refine zP ?_ | refine zQ ?_ | refine zR rfl ?_ | refine zS rfl ?_ | refine zT Tryz.mixed (by kernel_rfl) ?_)
      refine wl_pure Tryz.hT rfl rfl rfl ?_
      refine wl_upd 52 (.int .i64 6) rfl (by rw [eE]) ?_
      refine wl_pure Tryz.hT rfl rfl rfl ?_
      refine wl_nil ?_
      repeat (first | refine zA ?_ | refine zB ?_ | refine zC ?_ | refine zD ?_ | refine zE ?_ | refine zF ?_ | refine zG ?_ | refine zH ?_ | refine zI ?_ | refine zJ ?_ | refine zK ?_ | refine zL ?_ | refine zM rfl ?_ | refine zN ?_ | refine zO ?_ | refine zP ?_ | refine zQ ?_ | refine zR rfl ?_ | refine zS rfl ?_ | refine zT Tryz.mixed (by kernel_rfl) ?_)
      exact ne_cut () trivial ⟨rfl, rfl, rfl, rfl, rfl, trivial⟩ [] rfl
  intro _ _
  repeat (first | refine zA ?_ | refine zB ?_ | refine zC ?_ | refine zD ?_ | refine zE ?_ | refine zF ?_ | refine zG ?_ | refine zH ?_ | refine zI ?_ | refine zJ ?_ | refine zK ?_ | refine zL ?_ | refine zM rfl ?_ | refine zN ?_ | refine zO ?_ | refine zP ?_ | refine zQ ?_ | refine zR rfl ?_ | refine zS rfl ?_ | refine zT Tryz.mixed (by kernel_rfl) ?_)
  iterate 3 refine wl_pure Tryz.hT rfl rfl rfl ?_
  refine wl_upd 56 (.int .u16 (lo : Nat)) rfl (congrArg (Value.int .u16) (by show (if _ then _ else _) = _; split <;> omega)) ?_
  refine wl_cvA Tryz.underlying35 Tryz.underlying3 rfl rfl rfl rfl ?_
  refine wl_upd 57 (.int .i64 (lo : Nat)) rfl (congrArg (Value.int .i64) (w64_nat (by omega))) ?_
  refine wl_call1 rfl rfl rfl rfl rfl rfl (by kernel_rfl) (fun W hp => (lnum_gives (lo : Nat) 4 (by decide) (by omega) (by decide) W (ht.hp hp)).cast (by rw [← h1])) ?_
  iterate 3 refine wl_pure Tryz.hT rfl rfl rfl ?_
  refine wl_upd 61 (.int .u16 (hi : Nat)) rfl (congrArg (Value.int .u16) (by show (if _ then _ else _) = _; split <;> omega)) ?_
  refine wl_cvA Tryz.underlying35 Tryz.underlying3 rfl rfl rfl rfl ?_
  refine wl_upd 62 (.int .i64 (hi : Nat)) rfl (congrArg (Value.int .i64) (w64_nat (by omega))) ?_
  refine wl_call1 rfl rfl rfl rfl rfl rfl (by kernel_rfl) (fun W hp => (lnum_gives (hi : Nat) 4 (by decide) (by omega) (by decide) W (ht.hp hp)).cast (by rw [← h2])) ?_
  iterate 2 refine wl_pure Tryz.hT rfl rfl rfl ?_
  refine wl_nil ?_
  repeat (first | refine zA ?_ | refine zB ?_ | refine zC ?_ | refine zD ?_ | refine zE ?_ | refine zF ?_ | refine zG ?_ | refine zH ?_ | refine zI ?_ | refine zJ ?_ | refine zK ?_ | refine zL ?_ | refine zM rfl ?_ | refine zN ?_ | refine zO ?_ | refine zP ?_ | refine zQ ?_ | refine zR rfl ?_ | refine zS rfl ?_ | refine zT Tryz.mixed (by kernel_rfl) ?_)
  (first | refine wl_loadBx 0 Tryz.hT rfl rfl rfl rfl rfl rfl rfl rfl ?_ | refine wl_loadBx 1 Tryz.hT rfl rfl rfl rfl rfl rfl rfl rfl ?_ | refine wl_loadBx 2 Tryz.hT rfl rfl rfl rfl rfl rfl rfl rfl ?_ | refine wl_loadBx 3 Tryz.hT rfl rfl rfl rfl rfl rfl rfl rfl ?_)
  refine wl_pure Tryz.hT rfl rfl rfl ?_
  refine wl_call1 rfl rfl rfl rfl rfl rfl (by kernel_rfl) (fun W hp => fPos_gives f hok t1 (z1.mono (by decide)) W (hv.hp hp) (ht.hp hp)) ?_
  iterate 5 refine wl_pure Tryz.hT rfl rfl rfl ?_
  refine wl_nil ?_
  repeat (first | refine zA ?_ | refine zB ?_ | refine zC ?_ | refine zD ?_ | refine zE ?_ | refine zF ?_ | refine zG ?_ | refine zH ?_ | refine zI ?_ | refine zJ ?_ | refine zK ?_ | refine zL ?_ | refine zM rfl ?_ | refine zN ?_ | refine zO ?_ | refine zP ?_ | refine zQ ?_ | refine zR rfl ?_ | refine zS rfl ?_ | refine zT Tryz.mixed (by kernel_rfl) ?_)
  (first | refine wl_loadBx 0 Tryz.hT rfl rfl rfl rfl rfl rfl rfl rfl ?_ | refine wl_loadBx 1 Tryz.hT rfl rfl rfl rfl rfl rfl rfl rfl ?_ | refine wl_loadBx 2 Tryz.hT rfl rfl rfl rfl rfl rfl rfl rfl ?_ | refine wl_loadBx 3 Tryz.hT rfl rfl rfl rfl rfl rfl rfl rfl ?_)
  refine wl_pure Tryz.hT rfl rfl rfl ?_
  refine wl_call1 rfl rfl rfl rfl rfl rfl (by kernel_rfl) (fun W hp => fPos_gives f hok t2 (z2.mono (by decide)) W (hv.hp hp) (ht.hp hp)) ?_
  iterate 5 refine wl_pure Tryz.hT rfl rfl rfl ?_
  refine wl_nil ?_
  repeat (first | refine zA ?_ | refine zB ?_ | refine zC ?_ | refine zD ?_ | refine zE ?_ | refine zF ?_ | refine zG ?_ | refine zH ?_ | refine zI ?_ | refine zJ ?_ | refine zK ?_ | refine zL ?_ | refine zM rfl ?_ | refine zN ?_ | refine zO ?_ | refine zP ?_ | refine zQ ?_ | refine zR rfl ?_ | refine zS rfl ?_ | refine zT Tryz.mixed (by kernel_rfl) ?_)
  iterate 2 refine wl_pure Tryz.hT rfl rfl rfl ?_
  refine wl_call1 rfl rfl rfl rfl rfl rfl (by kernel_rfl) (fun W hp => (rcompare_gives (f.at t1) (f.at t2) (sz2 y1 y2 (by decide)) W (hv.hp hp) (ht.hp hp)).cast (by rw [cmpZ_Q])) ?_
  iterate 5 refine wl_pure Tryz.hT rfl rfl rfl ?_
  refine wl_nil ?_
  repeat (first | refine zA ?_ | refine zB ?_ | refine zC ?_ | refine zD ?_ | refine zE ?_ | refine zF ?_ | refine zG ?_ | refine zH ?_ | refine zI ?_ | refine zJ ?_ | refine zK ?_ | refine zL ?_ | refine zM rfl ?_ | refine zN ?_ | refine zO ?_ | refine zP ?_ | refine zQ ?_ | refine zR rfl ?_ | refine zS rfl ?_ | refine zT Tryz.mixed (by kernel_rfl) ?_)
  (first | refine wl_loadBx 0 Tryz.hT rfl rfl rfl rfl rfl rfl rfl rfl ?_ | refine wl_loadBx 1 Tryz.hT rfl rfl rfl rfl rfl rfl rfl rfl ?_ | refine wl_loadBx 2 Tryz.hT rfl rfl rfl rfl rfl rfl rfl rfl ?_ | refine wl_loadBx 3 Tryz.hT rfl rfl rfl rfl rfl rfl rfl rfl ?_)
  refine wl_pure Tryz.hT rfl rfl rfl ?_
  refine wl_call1 rfl rfl rfl rfl rfl rfl (by kernel_rfl) (fun W hp => fSpeed_gives f hok t1 (z1.mono (by decide)) W (hv.hp hp) (ht.hp hp)) ?_
  iterate 5 refine wl_pure Tryz.hT rfl rfl rfl ?_
  refine wl_nil ?_
  repeat (first | refine ne_then ?_ | refine wc_seq ?_)
  refine wc_cutS (X := Unit) (fun _ => [(1, .int .i16 c), (9, selfP b9), (12, .int .i64 (f.levE p)), (113, .bool false)]) (fun _ => [smB b4 x, ⟨b9, 30, (frV f).cells.toList, true, none⟩]) (fun _ => True) ?_ ?_
  · repeat (first | refine zA ?_ | refine zB ?_ | refine zC ?_ | refine zD ?_ | refine zE ?_ | refine zF ?_ | refine zG ?_ | refine zH ?_ | refine zI ?_ | refine zJ ?_ | refine zK ?_ | refine zL ?_ | refine zM rfl ?_ | refine zN ?_ | refine zO ?_ | refine zP ?_ | refine zQ ?_ | refine zR rfl ?_ | refine zS rfl ?_ | refine zT Tryz.mixed (by kernel_rfl) ?_)
    iterate 7 refine wl_pure Tryz.hT rfl rfl rfl ?_
    (first | refine wl_pure Tryz.hT rfl rfl rfl ?_ | refine wl_skip rfl rfl ?_)
    (first | refine wl_pure Tryz.hT rfl rfl rfl ?_ | refine wl_skip rfl rfl ?_)
    (first | refine wl_skip rfl rfl ?_ | refine wl_loadBx 0 Tryz.hT rfl rfl rfl rfl rfl rfl rfl rfl ?_ | refine wl_loadBx 1 Tryz.hT rfl rfl rfl rfl rfl rfl rfl rfl ?_ | refine wl_loadBx 2 Tryz.hT rfl rfl rfl rfl rfl rfl rfl rfl ?_ | refine wl_loadBx 3 Tryz.hT rfl rfl rfl rfl rfl rfl rfl rfl ?_)
    (first | refine wl_pure Tryz.hT rfl rfl rfl ?_ | refine wl_skip rfl rfl ?_)
    refine wl_upd 98 (.int .i64 (cmpQ (f.at t1) (f.at t2) * f.hd)) rfl (congrArg (Value.int .i64) (w64_id (by rcases hd1 with e | e <;> rw [e] <;> omega) (by omega))) ?_
    (first | refine wl_pure Tryz.hT rfl rfl rfl ?_ | refine wl_skip rfl rfl ?_)
    refine wl_upd 99 (.bool false) rfl (congrArg Value.bool (decide_eq_false (by omega))) ?_
    iterate 2 refine wl_pure Tryz.hT rfl rfl rfl ?_
    (first | refine wl_pure Tryz.hT rfl rfl rfl ?_ | refine wl_skip rfl rfl ?_)
    refine wl_pure Tryz.hT rfl rfl rfl ?_
    by_cases c1 : f.speed t1 = 0
    · refine wl_upd 103 (.bool false) rfl (congrArg Value.bool (by show (!_) = false; rw [strEqB, numS_eq0, decide_eq_true c1]; rfl)) ?_
      (first | refine wl_pure Tryz.hT rfl rfl rfl ?_ | refine wl_skip rfl rfl ?_)
      (first | refine wl_pure Tryz.hT rfl rfl rfl ?_ | refine wl_skip rfl rfl ?_)
      (first | refine wl_pure Tryz.hT rfl rfl rfl ?_ | refine wl_skip rfl rfl ?_)
      (first | refine wl_pure Tryz.hT rfl rfl rfl ?_ | refine wl_skip rfl rfl ?_)
      (first | refine wl_pure Tryz.hT rfl rfl rfl ?_ | refine wl_skip rfl rfl ?_)
      (first | refine wl_pure Tryz.hT rfl rfl rfl ?_ | refine wl_skip rfl rfl ?_)
      (first | refine wl_pure Tryz.hT rfl rfl rfl ?_ | refine wl_skip rfl rfl ?_)
      (first | refine wl_pure Tryz.hT rfl rfl rfl ?_ | refine wl_skip rfl rfl ?_)
      (first | refine wl_pure Tryz.hT rfl rfl rfl ?_ | refine wl_skip rfl rfl ?_)
      refine wl_pure Tryz.hT rfl rfl rfl ?_
      refine wl_nil ?_
      repeat (first | refine zA ?_ | refine zB ?_ | refine zC ?_ | refine zD ?_ | refine zE ?_ | refine zF ?_ | refine zG ?_ | refine zH ?_ | refine zI ?_ | refine zJ ?_ | refine zK ?_ | refine zL ?_ | refine zM rfl ?_ | refine zN ?_ | refine zO ?_ | refine zP ?_ | refine zQ ?_ | refine zR rfl ?_ | refine zS rfl ?_ | refine zT Tryz.mixed (by kernel_rfl) ?_)
      exact ne_cut () trivial ⟨rfl, rfl, rfl, rfl, trivial⟩ [] rfl
    · refine wl_upd 103 (.bool true) rfl (congrArg Value.bool (by show (!_) = true; rw [strEqB, numS_eq0, decide_eq_false c1]; rfl)) ?_
      (first | refine wl_pure Tryz.hT rfl rfl rfl ?_ | refine wl_skip rfl rfl ?_)
      (first | refine wl_pure Tryz.hT rfl rfl rfl ?_ | refine wl_skip rfl rfl ?_)
      (first | refine wl_pure Tryz.hT rfl rfl rfl ?_ | refine wl_skip rfl rfl ?_)
      (first | refine wl_pure Tryz.hT rfl rfl rfl ?_ | refine wl_skip rfl rfl ?_)
      by_cases c2 : a = b
      · refine wl_upd 107 (.bool false) rfl (congrArg Value.bool (by rw [c2]; simp)) ?_
        (first | refine wl_pure Tryz.hT rfl rfl rfl ?_ | refine wl_skip rfl rfl ?_)
        (first | refine wl_pure Tryz.hT rfl rfl rfl ?_ | refine wl_skip rfl rfl ?_)
        (first | refine wl_pure Tryz.hT rfl rfl rfl ?_ | refine wl_skip rfl rfl ?_)
        (first | refine wl_pure Tryz.hT rfl rfl rfl ?_ | refine wl_skip rfl rfl ?_)
        (first | refine wl_pure Tryz.hT rfl rfl rfl ?_ | refine wl_skip rfl rfl ?_)
        refine wl_pure Tryz.hT rfl rfl rfl ?_
        refine wl_nil ?_
        repeat (first | refine zA ?_ | refine zB ?_ | refine zC ?_ | refine zD ?_ | refine zE ?_ | refine zF ?_ | refine zG ?_ | refine zH ?_ | refine zI ?_ | refine zJ ?_ | refine zK ?_ | refine zL ?_ | refine zM rfl ?_ | refine zN ?_ | refine zO ?_ | refine zP ?_ | refine zQ ?_ | refine zR rfl ?_ | refine zS rfl ?_ | refine zT Tryz.mixed (by kernel_rfl) ?_)
        exact ne_cut () trivial ⟨rfl, rfl, rfl, rfl, trivial⟩ [] rfl
      · have hlt : t1 < t2 := by
          refine Rat.lt_of_le_of_ne hle fun e => ?_
          rw [h1, h2, qtr_eq, qtr_eq] at e
          have e3 : (((lo : Nat) : Int) : Rat) = (((hi : Nat) : Int) : Rat) := by grind
          have := Rat.intCast_inj.1 e3
          omega
        have hne := moves_law hok hlt c1
        refine wl_upd 107 (.bool true) rfl (congrArg Value.bool (by rw [bne_iff_ne]; omega)) ?_
        (first | refine wl_pure Tryz.hT rfl rfl rfl ?_ | refine wl_skip rfl rfl ?_)
        (first | refine wl_pure Tryz.hT rfl rfl rfl ?_ | refine wl_skip rfl rfl ?_)
        (first | refine wl_pure Tryz.hT rfl rfl rfl ?_ | refine wl_skip rfl rfl ?_)
        (first | refine wl_pure Tryz.hT rfl rfl rfl ?_ | refine wl_skip rfl rfl ?_)
        refine wl_upd 111 (.bool false) rfl (congrArg Value.bool (by rw [beq_eq_false_iff_ne]; exact hne)) ?_
        (first | refine wl_pure Tryz.hT rfl rfl rfl ?_ | refine wl_skip rfl rfl ?_)
        refine wl_pure Tryz.hT rfl rfl rfl ?_
        refine wl_nil ?_
        repeat (first | refine zA ?_ | refine zB ?_ | refine zC ?_ | refine zD ?_ | refine zE ?_ | refine zF ?_ | refine zG ?_ | refine zH ?_ | refine zI ?_ | refine zJ ?_ | refine zK ?_ | refine zL ?_ | refine zM rfl ?_ | refine zN ?_ | refine zO ?_ | refine zP ?_ | refine zQ ?_ | refine zR rfl ?_ | refine zS rfl ?_ | refine zT Tryz.mixed (by kernel_rfl) ?_)
        exact ne_cut () trivial ⟨rfl, rfl, rfl, rfl, trivial⟩ [] rfl
  intro _ _
  repeat (first | refine zA ?_ | refine zB ?_ | refine zC ?_ | refine zD ?_ | refine zE ?_ | refine zF ?_ | refine zG ?_ | refine zH ?_ | refine zI ?_ | refine zJ ?_ | refine zK ?_ | refine zL ?_ | refine zM rfl ?_ | refine zN ?_ | refine zO ?_ | refine zP ?_ | refine zQ ?_ | refine zR rfl ?_ | refine zS rfl ?_ | refine zT Tryz.mixed (by kernel_rfl) ?_)
  refine wl_pure Tryz.hT rfl rfl rfl ?_
  refine wl_cvA Tryz.underlying48 Tryz.underlying3 rfl rfl rfl rfl ?_
  refine wl_upd 115 (.int .i64 c) rfl (congrArg (Value.int .i64) (w64_id (by omega) (by omega))) ?_
  refine wl_pure Tryz.hT rfl rfl rfl ?_
  (first | refine wl_loadBx 0 Tryz.hT rfl rfl rfl rfl rfl rfl rfl rfl ?_ | refine wl_loadBx 1 Tryz.hT rfl rfl rfl rfl rfl rfl rfl rfl ?_ | refine wl_loadBx 2 Tryz.hT rfl rfl rfl rfl rfl rfl rfl rfl ?_ | refine wl_loadBx 3 Tryz.hT rfl rfl rfl rfl rfl rfl rfl rfl ?_)
  refine wl_pure Tryz.hT rfl rfl rfl ?_
  refine wl_upd 118 (.int .i64 (4 * f.pos)) rfl (congrArg (Value.int .i64) (w64_id (by omega) (by omega))) ?_
  refine wl_pure Tryz.hT rfl rfl rfl ?_
  refine wl_upd 119 (.int .i64 (c - 4 * f.pos)) rfl (congrArg (Value.int .i64) (w64_id (by omega) (by omega))) ?_
  refine wl_pure Tryz.hT rfl rfl rfl ?_
  (first | refine wl_loadBx 0 Tryz.hT rfl rfl rfl rfl rfl rfl rfl rfl ?_ | refine wl_loadBx 1 Tryz.hT rfl rfl rfl rfl rfl rfl rfl rfl ?_ | refine wl_loadBx 2 Tryz.hT rfl rfl rfl rfl rfl rfl rfl rfl ?_ | refine wl_loadBx 3 Tryz.hT rfl rfl rfl rfl rfl rfl rfl rfl ?_)
  refine wl_pure Tryz.hT rfl rfl rfl ?_
  refine wl_upd 122 (.int .i64 ((c - 4 * f.pos) * f.hd)) rfl (congrArg (Value.int .i64) (w64_id (by rcases hd1 with e | e <;> rw [e] <;> omega) (by rcases hd1 with e | e <;> rw [e] <;> omega))) ?_
  refine wl_pure Tryz.hT rfl rfl rfl ?_
  refine wl_nil ?_
  repeat (first | refine zA ?_ | refine zB ?_ | refine zC ?_ | refine zD ?_ | refine zE ?_ | refine zF ?_ | refine zG ?_ | refine zH ?_ | refine zI ?_ | refine zJ ?_ | refine zK ?_ | refine zL ?_ | refine zM rfl ?_ | refine zN ?_ | refine zO ?_ | refine zP ?_ | refine zQ ?_ | refine zR rfl ?_ | refine zS rfl ?_ | refine zT Tryz.mixed (by kernel_rfl) ?_)
  iterate 2 refine wl_pure Tryz.hT rfl rfl rfl ?_
  refine wl_upd 124 (.bool (f.gets p)) rfl (congrArg Value.bool (by show ((f.levE p) == 0) = _; unfold FrP.levE; cases f.gets p <;> rfl)) ?_
  refine wl_pure Tryz.hT rfl rfl rfl ?_
  (first | refine wl_loadBx 0 Tryz.hT rfl rfl rfl rfl rfl rfl rfl rfl ?_ | refine wl_loadBx 1 Tryz.hT rfl rfl rfl rfl rfl rfl rfl rfl ?_ | refine wl_loadBx 2 Tryz.hT rfl rfl rfl rfl rfl rfl rfl rfl ?_ | refine wl_loadBx 3 Tryz.hT rfl rfl rfl rfl rfl rfl rfl rfl ?_)
  refine wl_pure Tryz.hT rfl rfl rfl ?_
  by_cases c1 : f.sp = 0
  · have hg : f.gets p = false := by rw [hin, c1]; rfl
    refine wl_upd 127 (.bool false) rfl (congrArg Value.bool (by show (!_) = false; rw [strEqB, numS_eq0, decide_eq_true c1]; rfl)) ?_
    refine wl_pure Tryz.hT rfl rfl rfl ?_
    (first | refine wl_pure Tryz.hT rfl rfl rfl ?_ | refine wl_skip rfl rfl ?_)
    (first | refine wl_pure Tryz.hT rfl rfl rfl ?_ | refine wl_skip rfl rfl ?_)
    refine wl_pure Tryz.hT rfl rfl rfl ?_
    refine wl_eqB Tryz.underlying4 rfl rfl rfl rfl rfl rfl ?_
    refine wl_upd 132 (.bool true) rfl (congrArg Value.bool (by rw [hg]; rfl)) ?_
    refine wl_pure Tryz.hT rfl rfl rfl ?_
    refine wl_call1 rfl rfl rfl rfl rfl rfl (by kernel_rfl) (fun W hp => awakeF_gives W (hv.hp hp) (ht.hp hp)) ?_
    iterate 2 refine wl_pure Tryz.hT rfl rfl rfl ?_
    refine wl_nil ?_
    repeat (first | refine zA ?_ | refine zB ?_ | refine zC ?_ | refine zD ?_ | refine zE ?_ | refine zF ?_ | refine zG ?_ | refine zH ?_ | refine zI ?_ | refine zJ ?_ | refine zK ?_ | refine zL ?_ | refine zM rfl ?_ | refine zN ?_ | refine zO ?_ | refine zP ?_ | refine zQ ?_ | refine zR rfl ?_ | refine zS rfl ?_ | refine zT Tryz.mixed (by kernel_rfl) ?_)
    exact ne_ret1 Tryz.hT rfl (.tmp rfl) () rfl trivial fun W _ => NewBx.nil _ _
  · have hg : f.gets p = decide (0 ≤ (c - 4 * f.pos) * f.hd) := by rw [hin, decide_eq_true (show f.sp ≠ 0 from c1)]; rfl
    refine wl_upd 127 (.bool true) rfl (congrArg Value.bool (by show (!_) = true; rw [strEqB, numS_eq0, decide_eq_false c1]; rfl)) ?_
    refine wl_pure Tryz.hT rfl rfl rfl ?_
    (first | refine wl_pure Tryz.hT rfl rfl rfl ?_ | refine wl_skip rfl rfl ?_)
    (first | refine wl_pure Tryz.hT rfl rfl rfl ?_ | refine wl_skip rfl rfl ?_)
    refine wl_upd 130 (.bool (f.gets p)) rfl (congrArg Value.bool hg.symm) ?_
    refine wl_pure Tryz.hT rfl rfl rfl ?_
    refine wl_eqB Tryz.underlying4 rfl rfl rfl rfl rfl rfl ?_
    refine wl_upd 132 (.bool true) rfl (congrArg Value.bool (by simp)) ?_
    refine wl_pure Tryz.hT rfl rfl rfl ?_
    refine wl_call1 rfl rfl rfl rfl rfl rfl (by kernel_rfl) (fun W hp => awakeF_gives W (hv.hp hp) (ht.hp hp)) ?_
    iterate 2 refine wl_pure Tryz.hT rfl rfl rfl ?_
    refine wl_nil ?_
    repeat (first | refine zA ?_ | refine zB ?_ | refine zC ?_ | refine zD ?_ | refine zE ?_ | refine zF ?_ | refine zG ?_ | refine zH ?_ | refine zI ?_ | refine zJ ?_ | refine zK ?_ | refine zL ?_ | refine zM rfl ?_ | refine zN ?_ | refine zO ?_ | refine zP ?_ | refine zQ ?_ | refine zR rfl ?_ | refine zS rfl ?_ | refine zT Tryz.mixed (by kernel_rfl) ?_)
    exact ne_ret1 Tryz.hT rfl (.tmp rfl) () rfl trivial fun W _ => NewBx.nil _ _
end Go.Proofs.YteaiopkopifijaaGreatDoor
