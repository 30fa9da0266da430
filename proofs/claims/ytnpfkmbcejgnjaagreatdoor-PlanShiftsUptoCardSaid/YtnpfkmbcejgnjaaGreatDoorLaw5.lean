/-
  PlanShifts gives true.
-/
import Derived.Test.YtnpfkmbcejgnjaaGreatDoorShiftMath
import Derived.Test.YtnpfkmbcejgnjaaGreatDoorAwake
import Derived.Test.YtnpfkmbcejgnjaaGreatDoorSdEq
namespace Go.Proofs.YtnpfkmbcejgnjaaGreatDoor
open Go Go.RowKit Go.Am Go.Lib
set_option maxRecDepth 10000
-- BOXES 16
section
variable {r : Option Nat} {n : Nat} {P : Program} {N : Nat} {D : List Deferred} {ops : List Oper} {Q : Exit → Act → World → Prop} {o : Oper} {rest : List Oper} {env : Env} {A : World → Prop}
theorem wl_conv {d : Nat} {t u : TypeId} {x : Operand} {k k' kt : IntKind} {z : Int} (ht : P.underlying t = some (.int kt)) (hu : P.underlying u = some (.int k)) (hg : guardE ops N env o = some true) (hd : o.dst = some d) (ho : o.op = .convert t u x) (hx : evO N env x = some (.int k' z))
    (h : WL r n P N D ops Q rest ((d, .int k (k.wrap z)) :: env) A) : WL r n P N D ops Q (o :: rest) env A :=
  wl_val hg hd (fun c e => by rw [ho] at e; cases e) (fun ρ W hρ _ => by
    simp [execOp, ho, convert, hρ _ _ hx, run_underlying ht, run_underlying hu, Conv.intToInt]) h
end
theorem shF_tr {dx dy : Int} {rs : List (List Sd)} (h : allR rs) (hx : -65536 ≤ dx ∧ dx ≤ 65536) (hy : -65536 ≤ dy ∧ dy ≤ 65536) : mvR (shF dx dy) rs = trR dx dy rs := by
  unfold mvR trR
  refine List.map_congr_left fun l hl => List.map_congr_left fun s hs => ?_
  obtain ⟨h1, h2, h3, h4⟩ := h l hl s hs
  unfold mvS shF tr
  simp only
  rw [w64_id (x := s.x + dx) (by omega) (by omega), w64_id (x := s.y + dy) (by omega) (by omega)]
theorem far_small {dx dy : Int} (hx : -65536 ≤ dx ∧ dx ≤ 65536) (hy : -65536 ≤ dy ∧ dy ≤ 65536) : shFar dx dy = false := by
  unfold shFar
  rw [Bool.or_eq_false_iff, decide_eq_false_iff_not, decide_eq_false_iff_not]
  constructor
  · split <;> omega
  · split <;> omega
theorem tr_tr (a b c d : Int) (s : Sd) : tr c d (tr a b s) = tr (a + c) (b + d) s := by
  unfold tr; simp only [Int.add_assoc]
theorem trR_trR (a b c d : Int) (rs : List (List Sd)) : trR c d (trR a b rs) = trR (a + c) (b + d) rs := by
  unfold trR
  rw [List.map_map]
  refine List.map_congr_left fun l _ => ?_
  show List.map _ (List.map _ l) = _
  rw [List.map_map]
  exact List.map_congr_left fun s _ => tr_tr a b c d s
theorem trR_zero (rs : List (List Sd)) : trR 0 0 rs = rs := by
  have : ∀ s : Sd, tr 0 0 s = s := fun s => by unfold tr; simp
  unfold trR
  rw [show (List.map (tr 0 0)) = id by funext l; rw [show tr 0 0 = id from funext this]; simp]
  simp
structure ShiftFacts (rs : List (List Sd)) (a b c d : Int) : Prop where
  bad : shE rs a b ≠ 0 → shE rs a b = 2 ∧ (a ≠ 0 ∨ b ≠ 0)
  back : shE rs a b = 0 → shE (mvR (shF a b) rs) (-a) (-b) = 0 ∧ mvR (shF (-a) (-b)) (mvR (shF a b) rs) = rs
  ok : shE rs a b = 0 → chk (mvR (shF a b) rs) = 0 ∧ areaN (mvR (shF a b) rs) = areaN rs
  both : shE rs a b = 0 → shE (mvR (shF a b) rs) c d = shE rs (a + c) (b + d) ∧ mvR (shF c d) (mvR (shF a b) rs) = mvR (shF (a + c) (b + d)) rs
theorem shE_eq {rs : List (List Sd)} {dx dy : Int} (hc : chk rs = 0) (hf : shFar dx dy = false) : shE rs dx dy = if (mvR (shF dx dy) rs).flatten.any (fun s => !rgd s) = true then 2 else 0 := by
  unfold shE
  rw [if_neg (fun h => h hc), if_neg (by rw [hf]; decide)]
theorem shift_facts {rs : List (List Sd)} (hc : chk rs = 0) {a b c d : Int} (ha : -32768 ≤ a ∧ a ≤ 32767) (hb : -32768 ≤ b ∧ b ≤ 32767) (hcc : -32768 ≤ c ∧ c ≤ 32767) (hd : -32768 ≤ d ∧ d ≤ 32767) : ShiftFacts rs a b c d := by
  obtain ⟨hr, _⟩ := chk_parts hc
  obtain ⟨_, h24, _⟩ := chk_ne hc
  have hR : allR rs := fun l hl s hs => rgd_inR (hr l hl s hs)
  have hany : rs.flatten.any (fun s => !rgd s) = false := Bool.eq_false_iff.2 fun h => by
    obtain ⟨s, hs, h⟩ := List.any_eq_true.1 h
    obtain ⟨l, hl, hs⟩ := List.mem_flatten.1 hs
    rw [hr l hl s hs] at h; cases h
  have e1 : mvR (shF a b) rs = trR a b rs := shF_tr hR (by omega) (by omega)
  have ez : shE rs a b = 0 → (trR a b rs).flatten.any (fun s => !rgd s) = false := fun h => by rw [← e1]; exact (shE_zero h).2.2
  refine ⟨fun h => ?_, fun h => ?_, fun h => ?_, fun h => ?_⟩
  · have h2 : shE rs a b = 2 := by
      rw [shE_eq hc (far_small (by omega) (by omega))] at h ⊢
      split
      · rfl
      · rename_i hn; rw [if_neg hn] at h; exact absurd rfl h
    refine ⟨h2, ?_⟩
    apply Classical.byContradiction
    intro hn
    have ha0 : a = 0 := by omega
    have hb0 : b = 0 := by omega
    subst ha0; subst hb0
    rw [shE_eq hc (far_small (by omega) (by omega)), e1, trR_zero, hany] at h2
    exact absurd h2 (by decide)
  all_goals
    have hx := ez h
    have hcx := chk_tr hc hx
    have hR2 : allR (trR a b rs) := fun l hl s hs => rgd_inR (any_rgd hx l hl s hs)
    rw [e1]
  · have e2 : mvR (shF (-a) (-b)) (trR a b rs) = rs := by
      rw [shF_tr hR2 (by omega) (by omega), trR_trR, show a + -a = 0 by omega, show b + -b = 0 by omega, trR_zero]
    refine ⟨?_, e2⟩
    rw [shE_eq hcx (far_small (by omega) (by omega)), e2, hany]; rfl
  · exact ⟨hcx, areaN_tr hR hR2 (by omega)⟩
  · have e2 : mvR (shF c d) (trR a b rs) = mvR (shF (a + c) (b + d)) rs := by
      rw [shF_tr hR2 (by omega) (by omega), trR_trR, shF_tr hR (by omega) (by omega)]
    refine ⟨?_, e2⟩
    rw [shE_eq hcx (far_small (by omega) (by omega)), shE_eq hc (far_small (by omega) (by omega)), e2]
abbrev i16 (z : Int) : Value := .int .i16 z
set_option maxHeartbeats 16000000 in
theorem shifts_gives (W : World) (p : Option Addr) (cap : Nat) (rs : List (List Sd)) (a b c d : Int) (hn : rs.length < 1099511627776) (hT : tot rs < 4611686018427387904) (hR : RingsP W p rs) (ht : TabP W)
    (ha : -32768 ≤ a ∧ a ≤ 32767) (hb : -32768 ≤ b ∧ b ≤ 32767) (hcc : -32768 ≤ c ∧ c ≤ 32767) (hd : -32768 ≤ d ∧ d ≤ 32767) :
    CallsR Tryz.prog 5 #[planV p rs.length cap, i16 a, i16 b, i16 c, i16 d] W (fun _ : Unit => .bool true) (fun _ => True) (fun _ => []) := by
  have u43 := Tryz.underlying43
  have u3 := Tryz.underlying3
  have wa : w64 a = a := w64_id (by omega) (by omega)
  have wb : w64 b = b := w64_id (by omega) (by omega)
  have wc : w64 c = c := w64_id (by omega) (by omega)
  have wd : w64 d = d := w64_id (by omega) (by omega)
  refine calls_enter (args := [planV p rs.length cap, i16 a, i16 b, i16 c, i16 d]) Tryz.func5 rfl rfl rfl ?_
  repeat (first | refine zA ?_ | refine zB ?_ | refine zC ?_ | refine zD ?_ | refine zE ?_ | refine zF ?_ | refine zG ?_ | refine zH ?_ | refine zI ?_ | refine zJ ?_ | refine zK ?_ | refine zL ?_ | refine zM rfl ?_ | refine zN ?_ | refine zO ?_ | refine zP ?_ | refine zQ ?_ | refine zR rfl ?_ | refine zS rfl ?_ | refine zT Tryz.mixed (by kernel_rfl) ?_)
  (refine wl_box rfl rfl rfl rfl ?_; intro)
  refine wl_pure Tryz.hT rfl rfl rfl ?_
  refine wl_nil ?_
  rename_i b5
  repeat (first | refine zA ?_ | refine zB ?_ | refine zC ?_ | refine zD ?_ | refine zE ?_ | refine zF ?_ | refine zG ?_ | refine zH ?_ | refine zI ?_ | refine zJ ?_ | refine zK ?_ | refine zL ?_ | refine zM rfl ?_ | refine zN ?_ | refine zO ?_ | refine zP ?_ | refine zQ ?_ | refine zR rfl ?_ | refine zS rfl ?_ | refine zT Tryz.mixed (by kernel_rfl) ?_)
  (first | refine wl_loadBx 0 Tryz.hT rfl rfl rfl rfl rfl rfl rfl rfl ?_ | refine wl_loadBx 1 Tryz.hT rfl rfl rfl rfl rfl rfl rfl rfl ?_ | refine wl_loadBx 2 Tryz.hT rfl rfl rfl rfl rfl rfl rfl rfl ?_ | refine wl_loadBx 3 Tryz.hT rfl rfl rfl rfl rfl rfl rfl rfl ?_ | refine wl_loadBx 4 Tryz.hT rfl rfl rfl rfl rfl rfl rfl rfl ?_ | refine wl_loadBx 5 Tryz.hT rfl rfl rfl rfl rfl rfl rfl rfl ?_ | refine wl_loadBx 6 Tryz.hT rfl rfl rfl rfl rfl rfl rfl rfl ?_ | refine wl_loadBx 7 Tryz.hT rfl rfl rfl rfl rfl rfl rfl rfl ?_ | refine wl_loadBx 8 Tryz.hT rfl rfl rfl rfl rfl rfl rfl rfl ?_ | refine wl_loadBx 9 Tryz.hT rfl rfl rfl rfl rfl rfl rfl rfl ?_ | refine wl_loadBx 10 Tryz.hT rfl rfl rfl rfl rfl rfl rfl rfl ?_ | refine wl_loadBx 11 Tryz.hT rfl rfl rfl rfl rfl rfl rfl rfl ?_ | refine wl_loadBx 12 Tryz.hT rfl rfl rfl rfl rfl rfl rfl rfl ?_ | refine wl_loadBx 13 Tryz.hT rfl rfl rfl rfl rfl rfl rfl rfl ?_ | refine wl_loadBx 14 Tryz.hT rfl rfl rfl rfl rfl rfl rfl rfl ?_ | refine wl_loadBx 15 Tryz.hT rfl rfl rfl rfl rfl rfl rfl rfl ?_)
  refine wl_call1 rfl rfl rfl rfl rfl rfl (by kernel_rfl) (fun W hp => fine_gives W p cap rs (by omega) hT (hR.hp hp)) ?_
  refine wl_pure Tryz.hT rfl rfl rfl ?_
  refine wl_nil ?_
  repeat (first | refine zA ?_ | refine zB ?_ | refine zC ?_ | refine zD ?_ | refine zE ?_ | refine zF ?_ | refine zG ?_ | refine zH ?_ | refine zI ?_ | refine zJ ?_ | refine zK ?_ | refine zL ?_ | refine zM rfl ?_ | refine zN ?_ | refine zO ?_ | refine zP ?_ | refine zQ ?_ | refine zR rfl ?_ | refine zS rfl ?_ | refine zT Tryz.mixed (by kernel_rfl) ?_)
  refine wc_cond rfl (fun hfine => ?_) (fun hfine => ?_)
  · repeat (first | refine zA ?_ | refine zB ?_ | refine zC ?_ | refine zD ?_ | refine zE ?_ | refine zF ?_ | refine zG ?_ | refine zH ?_ | refine zI ?_ | refine zJ ?_ | refine zK ?_ | refine zL ?_ | refine zM rfl ?_ | refine zN ?_ | refine zO ?_ | refine zP ?_ | refine zQ ?_ | refine zR rfl ?_ | refine zS rfl ?_ | refine zT Tryz.mixed (by kernel_rfl) ?_)
    refine wl_call1 rfl rfl rfl rfl rfl rfl (by kernel_rfl) (fun W hp => awake_gives W (ht.hp hp)) ?_
    refine wl_pure Tryz.hT rfl rfl rfl ?_
    refine wl_nil ?_
    repeat (first | refine zA ?_ | refine zB ?_ | refine zC ?_ | refine zD ?_ | refine zE ?_ | refine zF ?_ | refine zG ?_ | refine zH ?_ | refine zI ?_ | refine zJ ?_ | refine zK ?_ | refine zL ?_ | refine zM rfl ?_ | refine zN ?_ | refine zO ?_ | refine zP ?_ | refine zQ ?_ | refine zR rfl ?_ | refine zS rfl ?_ | refine zT Tryz.mixed (by kernel_rfl) ?_)
    exact ne_ret1 Tryz.hT rfl (.tmp rfl) () rfl trivial fun W _ => NewBx.nil _ _
  have hfine : fineB rs = true := by simpa using hfine
  unfold fineB at hfine
  obtain ⟨_, hc0⟩ := Bool.and_eq_true_iff.1 hfine
  have hc : chk rs = 0 := by simpa using hc0
  clear hfine hc0
  obtain ⟨hne, h24, _⟩ := chk_ne hc
  have F := shift_facts hc ha hb hcc hd
  repeat (first | refine zA ?_ | refine zB ?_ | refine zC ?_ | refine zD ?_ | refine zE ?_ | refine zF ?_ | refine zG ?_ | refine zH ?_ | refine zI ?_ | refine zJ ?_ | refine zK ?_ | refine zL ?_ | refine zM rfl ?_ | refine zN ?_ | refine zO ?_ | refine zP ?_ | refine zQ ?_ | refine zR rfl ?_ | refine zS rfl ?_ | refine zT Tryz.mixed (by kernel_rfl) ?_)
  (first | refine wl_loadBx 0 Tryz.hT rfl rfl rfl rfl rfl rfl rfl rfl ?_ | refine wl_loadBx 1 Tryz.hT rfl rfl rfl rfl rfl rfl rfl rfl ?_ | refine wl_loadBx 2 Tryz.hT rfl rfl rfl rfl rfl rfl rfl rfl ?_ | refine wl_loadBx 3 Tryz.hT rfl rfl rfl rfl rfl rfl rfl rfl ?_ | refine wl_loadBx 4 Tryz.hT rfl rfl rfl rfl rfl rfl rfl rfl ?_ | refine wl_loadBx 5 Tryz.hT rfl rfl rfl rfl rfl rfl rfl rfl ?_ | refine wl_loadBx 6 Tryz.hT rfl rfl rfl rfl rfl rfl rfl rfl ?_ | refine wl_loadBx 7 Tryz.hT rfl rfl rfl rfl rfl rfl rfl rfl ?_ | refine wl_loadBx 8 Tryz.hT rfl rfl rfl rfl rfl rfl rfl rfl ?_ | refine wl_loadBx 9 Tryz.hT rfl rfl rfl rfl rfl rfl rfl rfl ?_ | refine wl_loadBx 10 Tryz.hT rfl rfl rfl rfl rfl rfl rfl rfl ?_ | refine wl_loadBx 11 Tryz.hT rfl rfl rfl rfl rfl rfl rfl rfl ?_ | refine wl_loadBx 12 Tryz.hT rfl rfl rfl rfl rfl rfl rfl rfl ?_ | refine wl_loadBx 13 Tryz.hT rfl rfl rfl rfl rfl rfl rfl rfl ?_ | refine wl_loadBx 14 Tryz.hT rfl rfl rfl rfl rfl rfl rfl rfl ?_ | refine wl_loadBx 15 Tryz.hT rfl rfl rfl rfl rfl rfl rfl rfl ?_)
  refine wl_pure Tryz.hT rfl rfl rfl ?_
  refine wl_conv u43 u3 rfl rfl rfl rfl ?_
  refine wl_upd 30 (.int .i64 a) rfl (congrArg (Value.int .i64) wa) ?_
  refine wl_pure Tryz.hT rfl rfl rfl ?_
  refine wl_conv u43 u3 rfl rfl rfl rfl ?_
  refine wl_upd 32 (.int .i64 b) rfl (congrArg (Value.int .i64) wb) ?_
  by_cases he : shE rs a b = 0
  rotate_left
  · obtain ⟨e2, hab⟩ := F.bad he
    refine wl_call1 rfl rfl rfl rfl rfl rfl (by kernel_rfl) (fun W hp => (shift_no W p cap rs a b hn (by omega) (hR.hp hp) he).cast (by rw [e2])) ?_
    refine wl_pure Tryz.hT rfl rfl rfl ?_
    refine wl_pure Tryz.hT rfl rfl rfl ?_
    refine wl_pure Tryz.hT rfl rfl rfl ?_
    (refine wl_allocZ Tryz.hZ rfl rfl rfl rfl ?_; intro)
    (first | refine wl_storeBx 0 Tryz.hT rfl rfl rfl rfl rfl rfl rfl rfl rfl rfl rfl ?_ | refine wl_storeBx 1 Tryz.hT rfl rfl rfl rfl rfl rfl rfl rfl rfl rfl rfl ?_ | refine wl_storeBx 2 Tryz.hT rfl rfl rfl rfl rfl rfl rfl rfl rfl rfl rfl ?_ | refine wl_storeBx 3 Tryz.hT rfl rfl rfl rfl rfl rfl rfl rfl rfl rfl rfl ?_ | refine wl_storeBx 4 Tryz.hT rfl rfl rfl rfl rfl rfl rfl rfl rfl rfl rfl ?_ | refine wl_storeBx 5 Tryz.hT rfl rfl rfl rfl rfl rfl rfl rfl rfl rfl rfl ?_ | refine wl_storeBx 6 Tryz.hT rfl rfl rfl rfl rfl rfl rfl rfl rfl rfl rfl ?_ | refine wl_storeBx 7 Tryz.hT rfl rfl rfl rfl rfl rfl rfl rfl rfl rfl rfl ?_ | refine wl_storeBx 8 Tryz.hT rfl rfl rfl rfl rfl rfl rfl rfl rfl rfl rfl ?_ | refine wl_storeBx 9 Tryz.hT rfl rfl rfl rfl rfl rfl rfl rfl rfl rfl rfl ?_ | refine wl_storeBx 10 Tryz.hT rfl rfl rfl rfl rfl rfl rfl rfl rfl rfl rfl ?_ | refine wl_storeBx 11 Tryz.hT rfl rfl rfl rfl rfl rfl rfl rfl rfl rfl rfl ?_ | refine wl_storeBx 12 Tryz.hT rfl rfl rfl rfl rfl rfl rfl rfl rfl rfl rfl ?_ | refine wl_storeBx 13 Tryz.hT rfl rfl rfl rfl rfl rfl rfl rfl rfl rfl rfl ?_ | refine wl_storeBx 14 Tryz.hT rfl rfl rfl rfl rfl rfl rfl rfl rfl rfl rfl ?_ | refine wl_storeBx 15 Tryz.hT rfl rfl rfl rfl rfl rfl rfl rfl rfl rfl rfl ?_)
    refine wl_pure Tryz.hT rfl rfl rfl ?_
    refine wl_nil ?_
    repeat (first | refine zA ?_ | refine zB ?_ | refine zC ?_ | refine zD ?_ | refine zE ?_ | refine zF ?_ | refine zG ?_ | refine zH ?_ | refine zI ?_ | refine zJ ?_ | refine zK ?_ | refine zL ?_ | refine zM rfl ?_ | refine zN ?_ | refine zO ?_ | refine zP ?_ | refine zQ ?_ | refine zR rfl ?_ | refine zS rfl ?_ | refine zT Tryz.mixed (by kernel_rfl) ?_)
    refine wl_pure Tryz.hT rfl rfl rfl ?_
    refine wl_pure Tryz.hT rfl rfl rfl ?_
    refine wl_nil ?_
    repeat (first | refine zA ?_ | refine zB ?_ | refine zC ?_ | refine zD ?_ | refine zE ?_ | refine zF ?_ | refine zG ?_ | refine zH ?_ | refine zI ?_ | refine zJ ?_ | refine zK ?_ | refine zL ?_ | refine zM rfl ?_ | refine zN ?_ | refine zO ?_ | refine zP ?_ | refine zQ ?_ | refine zR rfl ?_ | refine zS rfl ?_ | refine zT Tryz.mixed (by kernel_rfl) ?_)
    refine wl_pure Tryz.hT rfl rfl rfl ?_
    refine wl_pure Tryz.hT rfl rfl rfl ?_
    refine wl_pure Tryz.hT rfl rfl rfl ?_
    (first | refine wl_pure Tryz.hT rfl rfl rfl ?_ | refine wl_skip rfl rfl ?_)
    (first | refine wl_pure Tryz.hT rfl rfl rfl ?_ | refine wl_skip rfl rfl ?_)
    (first | refine wl_pure Tryz.hT rfl rfl rfl ?_ | refine wl_skip rfl rfl ?_)
    refine wl_part 43 rfl (fun h43 => ?_) (fun h43 => ?_)
    · (first | refine wl_pure Tryz.hT rfl rfl rfl ?_ | refine wl_skip rfl rfl ?_)
      (first | refine wl_pure Tryz.hT rfl rfl rfl ?_ | refine wl_skip rfl rfl ?_)
      (first | refine wl_pure Tryz.hT rfl rfl rfl ?_ | refine wl_skip rfl rfl ?_)
      refine wl_pure Tryz.hT rfl rfl rfl ?_
      refine wl_pure Tryz.hT rfl rfl rfl ?_
      refine wl_call1 rfl rfl rfl rfl rfl rfl (by kernel_rfl) (fun W hp => awake_gives W (ht.hp hp)) ?_
      refine wl_pure Tryz.hT rfl rfl rfl ?_
      refine wl_pure Tryz.hT rfl rfl rfl ?_
      refine wl_nil ?_
      repeat (first | refine zA ?_ | refine zB ?_ | refine zC ?_ | refine zD ?_ | refine zE ?_ | refine zF ?_ | refine zG ?_ | refine zH ?_ | refine zI ?_ | refine zJ ?_ | refine zK ?_ | refine zL ?_ | refine zM rfl ?_ | refine zN ?_ | refine zO ?_ | refine zP ?_ | refine zQ ?_ | refine zR rfl ?_ | refine zS rfl ?_ | refine zT Tryz.mixed (by kernel_rfl) ?_)
      exact ne_ret1 Tryz.hT rfl (.tmp rfl) () rfl trivial fun W _ => NewBx.nil _ _
    · have ha0 : a = 0 := by have h' : (a != 0) = false := h43; simpa using h'
      have hb0 : b ≠ 0 := by rcases hab with h | h; exact absurd ha0 h; exact h
      (first | refine wl_pure Tryz.hT rfl rfl rfl ?_ | refine wl_skip rfl rfl ?_)
      (first | refine wl_pure Tryz.hT rfl rfl rfl ?_ | refine wl_skip rfl rfl ?_)
      refine wl_upd 45 (.bool true) rfl (congrArg Value.bool (by show (b != 0) = true; simpa using hb0)) ?_
      (first | refine wl_pure Tryz.hT rfl rfl rfl ?_ | refine wl_skip rfl rfl ?_)
      refine wl_pure Tryz.hT rfl rfl rfl ?_
      refine wl_pure Tryz.hT rfl rfl rfl ?_
      refine wl_call1 rfl rfl rfl rfl rfl rfl (by kernel_rfl) (fun W hp => awake_gives W (ht.hp hp)) ?_
      refine wl_pure Tryz.hT rfl rfl rfl ?_
      refine wl_pure Tryz.hT rfl rfl rfl ?_
      refine wl_nil ?_
      repeat (first | refine zA ?_ | refine zB ?_ | refine zC ?_ | refine zD ?_ | refine zE ?_ | refine zF ?_ | refine zG ?_ | refine zH ?_ | refine zI ?_ | refine zJ ?_ | refine zK ?_ | refine zL ?_ | refine zM rfl ?_ | refine zN ?_ | refine zO ?_ | refine zP ?_ | refine zQ ?_ | refine zR rfl ?_ | refine zS rfl ?_ | refine zT Tryz.mixed (by kernel_rfl) ?_)
      exact ne_ret1 Tryz.hT rfl (.tmp rfl) () rfl trivial fun W _ => NewBx.nil _ _
  obtain ⟨hb1, hb2⟩ := F.back he
  obtain ⟨hcx, harea⟩ := F.ok he
  obtain ⟨hy1, hy2⟩ := F.both he
  refine wl_call (X := Vec × Made) rfl rfl rfl rfl rfl rfl (by kernel_rfl) (fun W hp => shift_ok W p cap rs a b hn (hR.hp hp) he) ?_
  rintro ⟨V1, mk1⟩ ⟨hmk1, hV1⟩
  have hV1' : V1.OK 1 (mvR (shF a b) rs).length (rowCells mk1) := by rw [mvR_len]; exact hV1
  obtain ⟨q1, cq1, eV1, hr1⟩ := made_rings hmk1 hV1'
  have hnx : (mvR (shF a b) rs).length < 1099511627776 := by rw [mvR_len]; exact hn
  have hTx : tot (mvR (shF a b) rs) < 1099511627776 := by rw [tot_mvR]; omega
  refine wl_upd 33 (.tuple #[planV q1 (mvR (shF a b) rs).length cq1, .int .i64 0]) rfl (congrArg (fun v => Value.tuple #[.agg #[v], .int .i64 0]) (by rw [← eV1, mvR_len])) ?_
  refine wl_pure Tryz.hT rfl rfl rfl ?_
  refine wl_pure Tryz.hT rfl rfl rfl ?_
  refine wl_pure Tryz.hT rfl rfl rfl ?_
  (refine wl_allocZ Tryz.hZ rfl rfl rfl rfl ?_; intro)
  (first | refine wl_storeBx 0 Tryz.hT rfl rfl rfl rfl rfl rfl rfl rfl rfl rfl rfl ?_ | refine wl_storeBx 1 Tryz.hT rfl rfl rfl rfl rfl rfl rfl rfl rfl rfl rfl ?_ | refine wl_storeBx 2 Tryz.hT rfl rfl rfl rfl rfl rfl rfl rfl rfl rfl rfl ?_ | refine wl_storeBx 3 Tryz.hT rfl rfl rfl rfl rfl rfl rfl rfl rfl rfl rfl ?_ | refine wl_storeBx 4 Tryz.hT rfl rfl rfl rfl rfl rfl rfl rfl rfl rfl rfl ?_ | refine wl_storeBx 5 Tryz.hT rfl rfl rfl rfl rfl rfl rfl rfl rfl rfl rfl ?_ | refine wl_storeBx 6 Tryz.hT rfl rfl rfl rfl rfl rfl rfl rfl rfl rfl rfl ?_ | refine wl_storeBx 7 Tryz.hT rfl rfl rfl rfl rfl rfl rfl rfl rfl rfl rfl ?_ | refine wl_storeBx 8 Tryz.hT rfl rfl rfl rfl rfl rfl rfl rfl rfl rfl rfl ?_ | refine wl_storeBx 9 Tryz.hT rfl rfl rfl rfl rfl rfl rfl rfl rfl rfl rfl ?_ | refine wl_storeBx 10 Tryz.hT rfl rfl rfl rfl rfl rfl rfl rfl rfl rfl rfl ?_ | refine wl_storeBx 11 Tryz.hT rfl rfl rfl rfl rfl rfl rfl rfl rfl rfl rfl ?_ | refine wl_storeBx 12 Tryz.hT rfl rfl rfl rfl rfl rfl rfl rfl rfl rfl rfl ?_ | refine wl_storeBx 13 Tryz.hT rfl rfl rfl rfl rfl rfl rfl rfl rfl rfl rfl ?_ | refine wl_storeBx 14 Tryz.hT rfl rfl rfl rfl rfl rfl rfl rfl rfl rfl rfl ?_ | refine wl_storeBx 15 Tryz.hT rfl rfl rfl rfl rfl rfl rfl rfl rfl rfl rfl ?_)
  refine wl_pure Tryz.hT rfl rfl rfl ?_
  refine wl_nil ?_
  rename_i b11
  repeat (first | refine zA ?_ | refine zB ?_ | refine zC ?_ | refine zD ?_ | refine zE ?_ | refine zF ?_ | refine zG ?_ | refine zH ?_ | refine zI ?_ | refine zJ ?_ | refine zK ?_ | refine zL ?_ | refine zM rfl ?_ | refine zN ?_ | refine zO ?_ | refine zP ?_ | refine zQ ?_ | refine zR rfl ?_ | refine zS rfl ?_ | refine zT Tryz.mixed (by kernel_rfl) ?_)
  refine wl_pure Tryz.hT rfl rfl rfl ?_
  refine wl_pure Tryz.hT rfl rfl rfl ?_
  refine wl_nil ?_
  repeat (first | refine zA ?_ | refine zB ?_ | refine zC ?_ | refine zD ?_ | refine zE ?_ | refine zF ?_ | refine zG ?_ | refine zH ?_ | refine zI ?_ | refine zJ ?_ | refine zK ?_ | refine zL ?_ | refine zM rfl ?_ | refine zN ?_ | refine zO ?_ | refine zP ?_ | refine zQ ?_ | refine zR rfl ?_ | refine zS rfl ?_ | refine zT Tryz.mixed (by kernel_rfl) ?_)
  (first | refine wl_loadBx 0 Tryz.hT rfl rfl rfl rfl rfl rfl rfl rfl ?_ | refine wl_loadBx 1 Tryz.hT rfl rfl rfl rfl rfl rfl rfl rfl ?_ | refine wl_loadBx 2 Tryz.hT rfl rfl rfl rfl rfl rfl rfl rfl ?_ | refine wl_loadBx 3 Tryz.hT rfl rfl rfl rfl rfl rfl rfl rfl ?_ | refine wl_loadBx 4 Tryz.hT rfl rfl rfl rfl rfl rfl rfl rfl ?_ | refine wl_loadBx 5 Tryz.hT rfl rfl rfl rfl rfl rfl rfl rfl ?_ | refine wl_loadBx 6 Tryz.hT rfl rfl rfl rfl rfl rfl rfl rfl ?_ | refine wl_loadBx 7 Tryz.hT rfl rfl rfl rfl rfl rfl rfl rfl ?_ | refine wl_loadBx 8 Tryz.hT rfl rfl rfl rfl rfl rfl rfl rfl ?_ | refine wl_loadBx 9 Tryz.hT rfl rfl rfl rfl rfl rfl rfl rfl ?_ | refine wl_loadBx 10 Tryz.hT rfl rfl rfl rfl rfl rfl rfl rfl ?_ | refine wl_loadBx 11 Tryz.hT rfl rfl rfl rfl rfl rfl rfl rfl ?_ | refine wl_loadBx 12 Tryz.hT rfl rfl rfl rfl rfl rfl rfl rfl ?_ | refine wl_loadBx 13 Tryz.hT rfl rfl rfl rfl rfl rfl rfl rfl ?_ | refine wl_loadBx 14 Tryz.hT rfl rfl rfl rfl rfl rfl rfl rfl ?_ | refine wl_loadBx 15 Tryz.hT rfl rfl rfl rfl rfl rfl rfl rfl ?_)
  refine wl_pure Tryz.hT rfl rfl rfl ?_
  refine wl_conv u43 u3 rfl rfl rfl rfl ?_
  refine wl_upd 54 (.int .i64 a) rfl (congrArg (Value.int .i64) wa) ?_
  refine wl_pure Tryz.hT rfl rfl rfl ?_
  refine wl_upd 55 (.int .i64 (-a)) rfl (congrArg (Value.int .i64) (show w64 (0 - a) = -a by rw [w64_id (by omega) (by omega)]; omega)) ?_
  refine wl_pure Tryz.hT rfl rfl rfl ?_
  refine wl_conv u43 u3 rfl rfl rfl rfl ?_
  refine wl_upd 57 (.int .i64 b) rfl (congrArg (Value.int .i64) wb) ?_
  refine wl_pure Tryz.hT rfl rfl rfl ?_
  refine wl_upd 58 (.int .i64 (-b)) rfl (congrArg (Value.int .i64) (show w64 (0 - b) = -b by rw [w64_id (by omega) (by omega)]; omega)) ?_
  refine wl_call (X := Vec × Made) rfl rfl rfl rfl rfl rfl (by kernel_rfl) (fun W hp => shift_ok W q1 cq1 (mvR (shF a b) rs) (-a) (-b) hnx (hr1 hp 1 2 rfl rfl) hb1) ?_
  rintro ⟨V2, mk2⟩ ⟨hmk2, hV2⟩
  rw [hb2] at hmk2
  have hV2' : V2.OK 1 rs.length (rowCells mk2) := by rw [mvR_len] at hV2; exact hV2
  obtain ⟨q2, cq2, eV2, hr2⟩ := made_rings hmk2 hV2'
  refine wl_upd 59 (.tuple #[planV q2 rs.length cq2, .int .i64 0]) rfl (congrArg (fun v => Value.tuple #[.agg #[v], .int .i64 0]) (by rw [← eV2, mvR_len])) ?_
  refine wl_pure Tryz.hT rfl rfl rfl ?_
  refine wl_pure Tryz.hT rfl rfl rfl ?_
  refine wl_pure Tryz.hT rfl rfl rfl ?_
  (refine wl_allocZ Tryz.hZ rfl rfl rfl rfl ?_; intro)
  (first | refine wl_storeBx 0 Tryz.hT rfl rfl rfl rfl rfl rfl rfl rfl rfl rfl rfl ?_ | refine wl_storeBx 1 Tryz.hT rfl rfl rfl rfl rfl rfl rfl rfl rfl rfl rfl ?_ | refine wl_storeBx 2 Tryz.hT rfl rfl rfl rfl rfl rfl rfl rfl rfl rfl rfl ?_ | refine wl_storeBx 3 Tryz.hT rfl rfl rfl rfl rfl rfl rfl rfl rfl rfl rfl ?_ | refine wl_storeBx 4 Tryz.hT rfl rfl rfl rfl rfl rfl rfl rfl rfl rfl rfl ?_ | refine wl_storeBx 5 Tryz.hT rfl rfl rfl rfl rfl rfl rfl rfl rfl rfl rfl ?_ | refine wl_storeBx 6 Tryz.hT rfl rfl rfl rfl rfl rfl rfl rfl rfl rfl rfl ?_ | refine wl_storeBx 7 Tryz.hT rfl rfl rfl rfl rfl rfl rfl rfl rfl rfl rfl ?_ | refine wl_storeBx 8 Tryz.hT rfl rfl rfl rfl rfl rfl rfl rfl rfl rfl rfl ?_ | refine wl_storeBx 9 Tryz.hT rfl rfl rfl rfl rfl rfl rfl rfl rfl rfl rfl ?_ | refine wl_storeBx 10 Tryz.hT rfl rfl rfl rfl rfl rfl rfl rfl rfl rfl rfl ?_ | refine wl_storeBx 11 Tryz.hT rfl rfl rfl rfl rfl rfl rfl rfl rfl rfl rfl ?_ | refine wl_storeBx 12 Tryz.hT rfl rfl rfl rfl rfl rfl rfl rfl rfl rfl rfl ?_ | refine wl_storeBx 13 Tryz.hT rfl rfl rfl rfl rfl rfl rfl rfl rfl rfl rfl ?_ | refine wl_storeBx 14 Tryz.hT rfl rfl rfl rfl rfl rfl rfl rfl rfl rfl rfl ?_ | refine wl_storeBx 15 Tryz.hT rfl rfl rfl rfl rfl rfl rfl rfl rfl rfl rfl ?_)
  refine wl_pure Tryz.hT rfl rfl rfl ?_
  refine wl_nil ?_
  rename_i b13
  repeat (first | refine zA ?_ | refine zB ?_ | refine zC ?_ | refine zD ?_ | refine zE ?_ | refine zF ?_ | refine zG ?_ | refine zH ?_ | refine zI ?_ | refine zJ ?_ | refine zK ?_ | refine zL ?_ | refine zM rfl ?_ | refine zN ?_ | refine zO ?_ | refine zP ?_ | refine zQ ?_ | refine zR rfl ?_ | refine zS rfl ?_ | refine zT Tryz.mixed (by kernel_rfl) ?_)
  (first | refine wl_loadBx 0 Tryz.hT rfl rfl rfl rfl rfl rfl rfl rfl ?_ | refine wl_loadBx 1 Tryz.hT rfl rfl rfl rfl rfl rfl rfl rfl ?_ | refine wl_loadBx 2 Tryz.hT rfl rfl rfl rfl rfl rfl rfl rfl ?_ | refine wl_loadBx 3 Tryz.hT rfl rfl rfl rfl rfl rfl rfl rfl ?_ | refine wl_loadBx 4 Tryz.hT rfl rfl rfl rfl rfl rfl rfl rfl ?_ | refine wl_loadBx 5 Tryz.hT rfl rfl rfl rfl rfl rfl rfl rfl ?_ | refine wl_loadBx 6 Tryz.hT rfl rfl rfl rfl rfl rfl rfl rfl ?_ | refine wl_loadBx 7 Tryz.hT rfl rfl rfl rfl rfl rfl rfl rfl ?_ | refine wl_loadBx 8 Tryz.hT rfl rfl rfl rfl rfl rfl rfl rfl ?_ | refine wl_loadBx 9 Tryz.hT rfl rfl rfl rfl rfl rfl rfl rfl ?_ | refine wl_loadBx 10 Tryz.hT rfl rfl rfl rfl rfl rfl rfl rfl ?_ | refine wl_loadBx 11 Tryz.hT rfl rfl rfl rfl rfl rfl rfl rfl ?_ | refine wl_loadBx 12 Tryz.hT rfl rfl rfl rfl rfl rfl rfl rfl ?_ | refine wl_loadBx 13 Tryz.hT rfl rfl rfl rfl rfl rfl rfl rfl ?_ | refine wl_loadBx 14 Tryz.hT rfl rfl rfl rfl rfl rfl rfl rfl ?_ | refine wl_loadBx 15 Tryz.hT rfl rfl rfl rfl rfl rfl rfl rfl ?_)
  refine wl_call1 rfl rfl rfl rfl rfl rfl (by kernel_rfl) (fun W hp => areaF_ok W p cap rs (by omega) (hR.hp hp) hc (ht.hp hp)) ?_
  refine wl_pure Tryz.hT rfl rfl rfl ?_
  refine wl_pure Tryz.hT rfl rfl rfl ?_
  refine wl_pure Tryz.hT rfl rfl rfl ?_
  refine wl_pure Tryz.hT rfl rfl rfl ?_
  refine wl_pure Tryz.hT rfl rfl rfl ?_
  refine wl_nil ?_
  repeat (first | refine zA ?_ | refine zB ?_ | refine zC ?_ | refine zD ?_ | refine zE ?_ | refine zF ?_ | refine zG ?_ | refine zH ?_ | refine zI ?_ | refine zJ ?_ | refine zK ?_ | refine zL ?_ | refine zM rfl ?_ | refine zN ?_ | refine zO ?_ | refine zP ?_ | refine zQ ?_ | refine zR rfl ?_ | refine zS rfl ?_ | refine zT Tryz.mixed (by kernel_rfl) ?_)
  (first | refine wl_loadBx 0 Tryz.hT rfl rfl rfl rfl rfl rfl rfl rfl ?_ | refine wl_loadBx 1 Tryz.hT rfl rfl rfl rfl rfl rfl rfl rfl ?_ | refine wl_loadBx 2 Tryz.hT rfl rfl rfl rfl rfl rfl rfl rfl ?_ | refine wl_loadBx 3 Tryz.hT rfl rfl rfl rfl rfl rfl rfl rfl ?_ | refine wl_loadBx 4 Tryz.hT rfl rfl rfl rfl rfl rfl rfl rfl ?_ | refine wl_loadBx 5 Tryz.hT rfl rfl rfl rfl rfl rfl rfl rfl ?_ | refine wl_loadBx 6 Tryz.hT rfl rfl rfl rfl rfl rfl rfl rfl ?_ | refine wl_loadBx 7 Tryz.hT rfl rfl rfl rfl rfl rfl rfl rfl ?_ | refine wl_loadBx 8 Tryz.hT rfl rfl rfl rfl rfl rfl rfl rfl ?_ | refine wl_loadBx 9 Tryz.hT rfl rfl rfl rfl rfl rfl rfl rfl ?_ | refine wl_loadBx 10 Tryz.hT rfl rfl rfl rfl rfl rfl rfl rfl ?_ | refine wl_loadBx 11 Tryz.hT rfl rfl rfl rfl rfl rfl rfl rfl ?_ | refine wl_loadBx 12 Tryz.hT rfl rfl rfl rfl rfl rfl rfl rfl ?_ | refine wl_loadBx 13 Tryz.hT rfl rfl rfl rfl rfl rfl rfl rfl ?_ | refine wl_loadBx 14 Tryz.hT rfl rfl rfl rfl rfl rfl rfl rfl ?_ | refine wl_loadBx 15 Tryz.hT rfl rfl rfl rfl rfl rfl rfl rfl ?_)
  refine wl_call1 rfl rfl rfl rfl rfl rfl (by kernel_rfl) (fun W hp => (areaF_ok W q1 cq1 (mvR (shF a b) rs) (by omega) (hr1 hp 1 2 rfl rfl) hcx (ht.hp hp)).cast (by rw [harea])) ?_
  refine wl_pure Tryz.hT rfl rfl rfl ?_
  refine wl_pure Tryz.hT rfl rfl rfl ?_
  refine wl_pure Tryz.hT rfl rfl rfl ?_
  refine wl_pure Tryz.hT rfl rfl rfl ?_
  refine wl_pure Tryz.hT rfl rfl rfl ?_
  refine wl_nil ?_
  repeat (first | refine zA ?_ | refine zB ?_ | refine zC ?_ | refine zD ?_ | refine zE ?_ | refine zF ?_ | refine zG ?_ | refine zH ?_ | refine zI ?_ | refine zJ ?_ | refine zK ?_ | refine zL ?_ | refine zM rfl ?_ | refine zN ?_ | refine zO ?_ | refine zP ?_ | refine zQ ?_ | refine zR rfl ?_ | refine zS rfl ?_ | refine zT Tryz.mixed (by kernel_rfl) ?_)
  refine wl_pure Tryz.hT rfl rfl rfl ?_
  refine wl_pure Tryz.hT rfl rfl rfl ?_
  refine wl_pure Tryz.hT rfl rfl rfl ?_
  refine wl_pure Tryz.hT rfl rfl rfl ?_
  refine wl_pure Tryz.hT rfl rfl rfl ?_
  refine wl_upd 76 (.bool false) rfl (congrArg Value.bool (by decide)) ?_
  refine wl_pure Tryz.hT rfl rfl rfl ?_
  (first | refine wl_skip rfl rfl ?_ | refine wl_loadBx 0 Tryz.hT rfl rfl rfl rfl rfl rfl rfl rfl ?_ | refine wl_loadBx 1 Tryz.hT rfl rfl rfl rfl rfl rfl rfl rfl ?_ | refine wl_loadBx 2 Tryz.hT rfl rfl rfl rfl rfl rfl rfl rfl ?_ | refine wl_loadBx 3 Tryz.hT rfl rfl rfl rfl rfl rfl rfl rfl ?_ | refine wl_loadBx 4 Tryz.hT rfl rfl rfl rfl rfl rfl rfl rfl ?_ | refine wl_loadBx 5 Tryz.hT rfl rfl rfl rfl rfl rfl rfl rfl ?_ | refine wl_loadBx 6 Tryz.hT rfl rfl rfl rfl rfl rfl rfl rfl ?_ | refine wl_loadBx 7 Tryz.hT rfl rfl rfl rfl rfl rfl rfl rfl ?_ | refine wl_loadBx 8 Tryz.hT rfl rfl rfl rfl rfl rfl rfl rfl ?_ | refine wl_loadBx 9 Tryz.hT rfl rfl rfl rfl rfl rfl rfl rfl ?_ | refine wl_loadBx 10 Tryz.hT rfl rfl rfl rfl rfl rfl rfl rfl ?_ | refine wl_loadBx 11 Tryz.hT rfl rfl rfl rfl rfl rfl rfl rfl ?_ | refine wl_loadBx 12 Tryz.hT rfl rfl rfl rfl rfl rfl rfl rfl ?_ | refine wl_loadBx 13 Tryz.hT rfl rfl rfl rfl rfl rfl rfl rfl ?_ | refine wl_loadBx 14 Tryz.hT rfl rfl rfl rfl rfl rfl rfl rfl ?_ | refine wl_loadBx 15 Tryz.hT rfl rfl rfl rfl rfl rfl rfl rfl ?_)
  (first | refine wl_skip rfl rfl ?_ | refine wl_loadBx 0 Tryz.hT rfl rfl rfl rfl rfl rfl rfl rfl ?_ | refine wl_loadBx 1 Tryz.hT rfl rfl rfl rfl rfl rfl rfl rfl ?_ | refine wl_loadBx 2 Tryz.hT rfl rfl rfl rfl rfl rfl rfl rfl ?_ | refine wl_loadBx 3 Tryz.hT rfl rfl rfl rfl rfl rfl rfl rfl ?_ | refine wl_loadBx 4 Tryz.hT rfl rfl rfl rfl rfl rfl rfl rfl ?_ | refine wl_loadBx 5 Tryz.hT rfl rfl rfl rfl rfl rfl rfl rfl ?_ | refine wl_loadBx 6 Tryz.hT rfl rfl rfl rfl rfl rfl rfl rfl ?_ | refine wl_loadBx 7 Tryz.hT rfl rfl rfl rfl rfl rfl rfl rfl ?_ | refine wl_loadBx 8 Tryz.hT rfl rfl rfl rfl rfl rfl rfl rfl ?_ | refine wl_loadBx 9 Tryz.hT rfl rfl rfl rfl rfl rfl rfl rfl ?_ | refine wl_loadBx 10 Tryz.hT rfl rfl rfl rfl rfl rfl rfl rfl ?_ | refine wl_loadBx 11 Tryz.hT rfl rfl rfl rfl rfl rfl rfl rfl ?_ | refine wl_loadBx 12 Tryz.hT rfl rfl rfl rfl rfl rfl rfl rfl ?_ | refine wl_loadBx 13 Tryz.hT rfl rfl rfl rfl rfl rfl rfl rfl ?_ | refine wl_loadBx 14 Tryz.hT rfl rfl rfl rfl rfl rfl rfl rfl ?_ | refine wl_loadBx 15 Tryz.hT rfl rfl rfl rfl rfl rfl rfl rfl ?_)
  refine wl_call1 rfl rfl rfl rfl rfl rfl (by kernel_rfl) (fun W hp => (same_gives W q2 p cq2 cap rs rs (by omega) (fun l hl => by have := len_le_tot hl; omega) (hr2 hp 4 5 rfl rfl) (hR.hp hp)).cast (by rw [decide_eq_true rfl])) ?_
  (first | refine wl_pure Tryz.hT rfl rfl rfl ?_ | refine wl_skip rfl rfl ?_)
  refine wl_pure Tryz.hT rfl rfl rfl ?_
  refine wl_pure Tryz.hT rfl rfl rfl ?_
  (first | refine wl_pure Tryz.hT rfl rfl rfl ?_ | refine wl_skip rfl rfl ?_)
  (first | refine wl_pure Tryz.hT rfl rfl rfl ?_ | refine wl_skip rfl rfl ?_)
  (first | refine wl_pure Tryz.hT rfl rfl rfl ?_ | refine wl_skip rfl rfl ?_)
  refine wl_upd 86 (.bool false) rfl (congrArg Value.bool (by simp)) ?_
  refine wl_pure Tryz.hT rfl rfl rfl ?_
  refine wl_nil ?_
  repeat (first | refine zA ?_ | refine zB ?_ | refine zC ?_ | refine zD ?_ | refine zE ?_ | refine zF ?_ | refine zG ?_ | refine zH ?_ | refine zI ?_ | refine zJ ?_ | refine zK ?_ | refine zL ?_ | refine zM rfl ?_ | refine zN ?_ | refine zO ?_ | refine zP ?_ | refine zQ ?_ | refine zR rfl ?_ | refine zS rfl ?_ | refine zT Tryz.mixed (by kernel_rfl) ?_)
  (first | refine wl_loadBx 0 Tryz.hT rfl rfl rfl rfl rfl rfl rfl rfl ?_ | refine wl_loadBx 1 Tryz.hT rfl rfl rfl rfl rfl rfl rfl rfl ?_ | refine wl_loadBx 2 Tryz.hT rfl rfl rfl rfl rfl rfl rfl rfl ?_ | refine wl_loadBx 3 Tryz.hT rfl rfl rfl rfl rfl rfl rfl rfl ?_ | refine wl_loadBx 4 Tryz.hT rfl rfl rfl rfl rfl rfl rfl rfl ?_ | refine wl_loadBx 5 Tryz.hT rfl rfl rfl rfl rfl rfl rfl rfl ?_ | refine wl_loadBx 6 Tryz.hT rfl rfl rfl rfl rfl rfl rfl rfl ?_ | refine wl_loadBx 7 Tryz.hT rfl rfl rfl rfl rfl rfl rfl rfl ?_ | refine wl_loadBx 8 Tryz.hT rfl rfl rfl rfl rfl rfl rfl rfl ?_ | refine wl_loadBx 9 Tryz.hT rfl rfl rfl rfl rfl rfl rfl rfl ?_ | refine wl_loadBx 10 Tryz.hT rfl rfl rfl rfl rfl rfl rfl rfl ?_ | refine wl_loadBx 11 Tryz.hT rfl rfl rfl rfl rfl rfl rfl rfl ?_ | refine wl_loadBx 12 Tryz.hT rfl rfl rfl rfl rfl rfl rfl rfl ?_ | refine wl_loadBx 13 Tryz.hT rfl rfl rfl rfl rfl rfl rfl rfl ?_ | refine wl_loadBx 14 Tryz.hT rfl rfl rfl rfl rfl rfl rfl rfl ?_ | refine wl_loadBx 15 Tryz.hT rfl rfl rfl rfl rfl rfl rfl rfl ?_)
  refine wl_pure Tryz.hT rfl rfl rfl ?_
  refine wl_conv u43 u3 rfl rfl rfl rfl ?_
  refine wl_upd 91 (.int .i64 c) rfl (congrArg (Value.int .i64) wc) ?_
  refine wl_pure Tryz.hT rfl rfl rfl ?_
  refine wl_conv u43 u3 rfl rfl rfl rfl ?_
  refine wl_upd 93 (.int .i64 d) rfl (congrArg (Value.int .i64) wd) ?_
  by_cases hz : shE (mvR (shF a b) rs) c d = 0
  rotate_left
  · have hz2 : shE rs (a + c) (b + d) ≠ 0 := hy1 ▸ hz
    refine wl_call1 rfl rfl rfl rfl rfl rfl (by kernel_rfl) (fun W hp => shift_no W q1 cq1 (mvR (shF a b) rs) c d hnx hTx (hr1 hp 1 2 rfl rfl) hz) ?_
    refine wl_pure Tryz.hT rfl rfl rfl ?_
    refine wl_pure Tryz.hT rfl rfl rfl ?_
    refine wl_pure Tryz.hT rfl rfl rfl ?_
    (refine wl_allocZ Tryz.hZ rfl rfl rfl rfl ?_; intro)
    (first | refine wl_storeBx 0 Tryz.hT rfl rfl rfl rfl rfl rfl rfl rfl rfl rfl rfl ?_ | refine wl_storeBx 1 Tryz.hT rfl rfl rfl rfl rfl rfl rfl rfl rfl rfl rfl ?_ | refine wl_storeBx 2 Tryz.hT rfl rfl rfl rfl rfl rfl rfl rfl rfl rfl rfl ?_ | refine wl_storeBx 3 Tryz.hT rfl rfl rfl rfl rfl rfl rfl rfl rfl rfl rfl ?_ | refine wl_storeBx 4 Tryz.hT rfl rfl rfl rfl rfl rfl rfl rfl rfl rfl rfl ?_ | refine wl_storeBx 5 Tryz.hT rfl rfl rfl rfl rfl rfl rfl rfl rfl rfl rfl ?_ | refine wl_storeBx 6 Tryz.hT rfl rfl rfl rfl rfl rfl rfl rfl rfl rfl rfl ?_ | refine wl_storeBx 7 Tryz.hT rfl rfl rfl rfl rfl rfl rfl rfl rfl rfl rfl ?_ | refine wl_storeBx 8 Tryz.hT rfl rfl rfl rfl rfl rfl rfl rfl rfl rfl rfl ?_ | refine wl_storeBx 9 Tryz.hT rfl rfl rfl rfl rfl rfl rfl rfl rfl rfl rfl ?_ | refine wl_storeBx 10 Tryz.hT rfl rfl rfl rfl rfl rfl rfl rfl rfl rfl rfl ?_ | refine wl_storeBx 11 Tryz.hT rfl rfl rfl rfl rfl rfl rfl rfl rfl rfl rfl ?_ | refine wl_storeBx 12 Tryz.hT rfl rfl rfl rfl rfl rfl rfl rfl rfl rfl rfl ?_ | refine wl_storeBx 13 Tryz.hT rfl rfl rfl rfl rfl rfl rfl rfl rfl rfl rfl ?_ | refine wl_storeBx 14 Tryz.hT rfl rfl rfl rfl rfl rfl rfl rfl rfl rfl rfl ?_ | refine wl_storeBx 15 Tryz.hT rfl rfl rfl rfl rfl rfl rfl rfl rfl rfl rfl ?_)
    refine wl_pure Tryz.hT rfl rfl rfl ?_
    refine wl_nil ?_
    rename_i b19
    repeat (first | refine zA ?_ | refine zB ?_ | refine zC ?_ | refine zD ?_ | refine zE ?_ | refine zF ?_ | refine zG ?_ | refine zH ?_ | refine zI ?_ | refine zJ ?_ | refine zK ?_ | refine zL ?_ | refine zM rfl ?_ | refine zN ?_ | refine zO ?_ | refine zP ?_ | refine zQ ?_ | refine zR rfl ?_ | refine zS rfl ?_ | refine zT Tryz.mixed (by kernel_rfl) ?_)
    (first | refine wl_loadBx 0 Tryz.hT rfl rfl rfl rfl rfl rfl rfl rfl ?_ | refine wl_loadBx 1 Tryz.hT rfl rfl rfl rfl rfl rfl rfl rfl ?_ | refine wl_loadBx 2 Tryz.hT rfl rfl rfl rfl rfl rfl rfl rfl ?_ | refine wl_loadBx 3 Tryz.hT rfl rfl rfl rfl rfl rfl rfl rfl ?_ | refine wl_loadBx 4 Tryz.hT rfl rfl rfl rfl rfl rfl rfl rfl ?_ | refine wl_loadBx 5 Tryz.hT rfl rfl rfl rfl rfl rfl rfl rfl ?_ | refine wl_loadBx 6 Tryz.hT rfl rfl rfl rfl rfl rfl rfl rfl ?_ | refine wl_loadBx 7 Tryz.hT rfl rfl rfl rfl rfl rfl rfl rfl ?_ | refine wl_loadBx 8 Tryz.hT rfl rfl rfl rfl rfl rfl rfl rfl ?_ | refine wl_loadBx 9 Tryz.hT rfl rfl rfl rfl rfl rfl rfl rfl ?_ | refine wl_loadBx 10 Tryz.hT rfl rfl rfl rfl rfl rfl rfl rfl ?_ | refine wl_loadBx 11 Tryz.hT rfl rfl rfl rfl rfl rfl rfl rfl ?_ | refine wl_loadBx 12 Tryz.hT rfl rfl rfl rfl rfl rfl rfl rfl ?_ | refine wl_loadBx 13 Tryz.hT rfl rfl rfl rfl rfl rfl rfl rfl ?_ | refine wl_loadBx 14 Tryz.hT rfl rfl rfl rfl rfl rfl rfl rfl ?_ | refine wl_loadBx 15 Tryz.hT rfl rfl rfl rfl rfl rfl rfl rfl ?_)
    refine wl_pure Tryz.hT rfl rfl rfl ?_
    refine wl_conv u43 u3 rfl rfl rfl rfl ?_
    refine wl_upd 100 (.int .i64 a) rfl (congrArg (Value.int .i64) wa) ?_
    refine wl_pure Tryz.hT rfl rfl rfl ?_
    refine wl_conv u43 u3 rfl rfl rfl rfl ?_
    refine wl_upd 102 (.int .i64 c) rfl (congrArg (Value.int .i64) wc) ?_
    refine wl_pure Tryz.hT rfl rfl rfl ?_
    refine wl_upd 103 (.int .i64 (a + c)) rfl (congrArg (Value.int .i64) (show w64 (a + c) = a + c from w64_id (by omega) (by omega))) ?_
    refine wl_pure Tryz.hT rfl rfl rfl ?_
    refine wl_conv u43 u3 rfl rfl rfl rfl ?_
    refine wl_upd 105 (.int .i64 b) rfl (congrArg (Value.int .i64) wb) ?_
    refine wl_pure Tryz.hT rfl rfl rfl ?_
    refine wl_conv u43 u3 rfl rfl rfl rfl ?_
    refine wl_upd 107 (.int .i64 d) rfl (congrArg (Value.int .i64) wd) ?_
    refine wl_pure Tryz.hT rfl rfl rfl ?_
    refine wl_upd 108 (.int .i64 (b + d)) rfl (congrArg (Value.int .i64) (show w64 (b + d) = b + d from w64_id (by omega) (by omega))) ?_
    refine wl_call1 rfl rfl rfl rfl rfl rfl (by kernel_rfl) (fun W hp => shift_no W p cap rs (a + c) (b + d) hn (by omega) (hR.hp hp) hz2) ?_
    refine wl_pure Tryz.hT rfl rfl rfl ?_
    refine wl_pure Tryz.hT rfl rfl rfl ?_
    refine wl_pure Tryz.hT rfl rfl rfl ?_
    (refine wl_allocZ Tryz.hZ rfl rfl rfl rfl ?_; intro)
    (first | refine wl_storeBx 0 Tryz.hT rfl rfl rfl rfl rfl rfl rfl rfl rfl rfl rfl ?_ | refine wl_storeBx 1 Tryz.hT rfl rfl rfl rfl rfl rfl rfl rfl rfl rfl rfl ?_ | refine wl_storeBx 2 Tryz.hT rfl rfl rfl rfl rfl rfl rfl rfl rfl rfl rfl ?_ | refine wl_storeBx 3 Tryz.hT rfl rfl rfl rfl rfl rfl rfl rfl rfl rfl rfl ?_ | refine wl_storeBx 4 Tryz.hT rfl rfl rfl rfl rfl rfl rfl rfl rfl rfl rfl ?_ | refine wl_storeBx 5 Tryz.hT rfl rfl rfl rfl rfl rfl rfl rfl rfl rfl rfl ?_ | refine wl_storeBx 6 Tryz.hT rfl rfl rfl rfl rfl rfl rfl rfl rfl rfl rfl ?_ | refine wl_storeBx 7 Tryz.hT rfl rfl rfl rfl rfl rfl rfl rfl rfl rfl rfl ?_ | refine wl_storeBx 8 Tryz.hT rfl rfl rfl rfl rfl rfl rfl rfl rfl rfl rfl ?_ | refine wl_storeBx 9 Tryz.hT rfl rfl rfl rfl rfl rfl rfl rfl rfl rfl rfl ?_ | refine wl_storeBx 10 Tryz.hT rfl rfl rfl rfl rfl rfl rfl rfl rfl rfl rfl ?_ | refine wl_storeBx 11 Tryz.hT rfl rfl rfl rfl rfl rfl rfl rfl rfl rfl rfl ?_ | refine wl_storeBx 12 Tryz.hT rfl rfl rfl rfl rfl rfl rfl rfl rfl rfl rfl ?_ | refine wl_storeBx 13 Tryz.hT rfl rfl rfl rfl rfl rfl rfl rfl rfl rfl rfl ?_ | refine wl_storeBx 14 Tryz.hT rfl rfl rfl rfl rfl rfl rfl rfl rfl rfl rfl ?_ | refine wl_storeBx 15 Tryz.hT rfl rfl rfl rfl rfl rfl rfl rfl rfl rfl rfl ?_)
    refine wl_pure Tryz.hT rfl rfl rfl ?_
    refine wl_nil ?_
    rename_i b21
    repeat (first | refine zA ?_ | refine zB ?_ | refine zC ?_ | refine zD ?_ | refine zE ?_ | refine zF ?_ | refine zG ?_ | refine zH ?_ | refine zI ?_ | refine zJ ?_ | refine zK ?_ | refine zL ?_ | refine zM rfl ?_ | refine zN ?_ | refine zO ?_ | refine zP ?_ | refine zQ ?_ | refine zR rfl ?_ | refine zS rfl ?_ | refine zT Tryz.mixed (by kernel_rfl) ?_)
    refine wl_pure Tryz.hT rfl rfl rfl ?_
    refine wl_pure Tryz.hT rfl rfl rfl ?_
    refine wl_pure Tryz.hT rfl rfl rfl ?_
    refine wl_upd 114 (.bool true) rfl (congrArg Value.bool (by show (shE (mvR (shF a b) rs) c d == shE rs (a + c) (b + d)) = true; rw [hy1]; simp)) ?_
    refine wl_pure Tryz.hT rfl rfl rfl ?_
    (first | refine wl_skip rfl rfl ?_ | refine wl_loadBx 0 Tryz.hT rfl rfl rfl rfl rfl rfl rfl rfl ?_ | refine wl_loadBx 1 Tryz.hT rfl rfl rfl rfl rfl rfl rfl rfl ?_ | refine wl_loadBx 2 Tryz.hT rfl rfl rfl rfl rfl rfl rfl rfl ?_ | refine wl_loadBx 3 Tryz.hT rfl rfl rfl rfl rfl rfl rfl rfl ?_ | refine wl_loadBx 4 Tryz.hT rfl rfl rfl rfl rfl rfl rfl rfl ?_ | refine wl_loadBx 5 Tryz.hT rfl rfl rfl rfl rfl rfl rfl rfl ?_ | refine wl_loadBx 6 Tryz.hT rfl rfl rfl rfl rfl rfl rfl rfl ?_ | refine wl_loadBx 7 Tryz.hT rfl rfl rfl rfl rfl rfl rfl rfl ?_ | refine wl_loadBx 8 Tryz.hT rfl rfl rfl rfl rfl rfl rfl rfl ?_ | refine wl_loadBx 9 Tryz.hT rfl rfl rfl rfl rfl rfl rfl rfl ?_ | refine wl_loadBx 10 Tryz.hT rfl rfl rfl rfl rfl rfl rfl rfl ?_ | refine wl_loadBx 11 Tryz.hT rfl rfl rfl rfl rfl rfl rfl rfl ?_ | refine wl_loadBx 12 Tryz.hT rfl rfl rfl rfl rfl rfl rfl rfl ?_ | refine wl_loadBx 13 Tryz.hT rfl rfl rfl rfl rfl rfl rfl rfl ?_ | refine wl_loadBx 14 Tryz.hT rfl rfl rfl rfl rfl rfl rfl rfl ?_ | refine wl_loadBx 15 Tryz.hT rfl rfl rfl rfl rfl rfl rfl rfl ?_)
    (first | refine wl_skip rfl rfl ?_ | refine wl_loadBx 0 Tryz.hT rfl rfl rfl rfl rfl rfl rfl rfl ?_ | refine wl_loadBx 1 Tryz.hT rfl rfl rfl rfl rfl rfl rfl rfl ?_ | refine wl_loadBx 2 Tryz.hT rfl rfl rfl rfl rfl rfl rfl rfl ?_ | refine wl_loadBx 3 Tryz.hT rfl rfl rfl rfl rfl rfl rfl rfl ?_ | refine wl_loadBx 4 Tryz.hT rfl rfl rfl rfl rfl rfl rfl rfl ?_ | refine wl_loadBx 5 Tryz.hT rfl rfl rfl rfl rfl rfl rfl rfl ?_ | refine wl_loadBx 6 Tryz.hT rfl rfl rfl rfl rfl rfl rfl rfl ?_ | refine wl_loadBx 7 Tryz.hT rfl rfl rfl rfl rfl rfl rfl rfl ?_ | refine wl_loadBx 8 Tryz.hT rfl rfl rfl rfl rfl rfl rfl rfl ?_ | refine wl_loadBx 9 Tryz.hT rfl rfl rfl rfl rfl rfl rfl rfl ?_ | refine wl_loadBx 10 Tryz.hT rfl rfl rfl rfl rfl rfl rfl rfl ?_ | refine wl_loadBx 11 Tryz.hT rfl rfl rfl rfl rfl rfl rfl rfl ?_ | refine wl_loadBx 12 Tryz.hT rfl rfl rfl rfl rfl rfl rfl rfl ?_ | refine wl_loadBx 13 Tryz.hT rfl rfl rfl rfl rfl rfl rfl rfl ?_ | refine wl_loadBx 14 Tryz.hT rfl rfl rfl rfl rfl rfl rfl rfl ?_ | refine wl_loadBx 15 Tryz.hT rfl rfl rfl rfl rfl rfl rfl rfl ?_)
    refine wl_call1 rfl rfl rfl rfl rfl rfl (by kernel_rfl) (fun W hp => (same_gives W none none 0 0 [] [] (by decide) (fun l hl => by cases hl) (.inl rfl) (.inl rfl)).cast (by rw [decide_eq_true rfl])) ?_
    refine wl_pure Tryz.hT rfl rfl rfl ?_
    refine wl_pure Tryz.hT rfl rfl rfl ?_
    refine wl_call1 rfl rfl rfl rfl rfl rfl (by kernel_rfl) (fun W hp => awake_gives W (ht.hp hp)) ?_
    refine wl_pure Tryz.hT rfl rfl rfl ?_
    refine wl_pure Tryz.hT rfl rfl rfl ?_
    refine wl_nil ?_
    repeat (first | refine zA ?_ | refine zB ?_ | refine zC ?_ | refine zD ?_ | refine zE ?_ | refine zF ?_ | refine zG ?_ | refine zH ?_ | refine zI ?_ | refine zJ ?_ | refine zK ?_ | refine zL ?_ | refine zM rfl ?_ | refine zN ?_ | refine zO ?_ | refine zP ?_ | refine zQ ?_ | refine zR rfl ?_ | refine zS rfl ?_ | refine zT Tryz.mixed (by kernel_rfl) ?_)
    exact ne_ret1 Tryz.hT rfl (.tmp rfl) () rfl trivial fun W _ => NewBx.nil _ _
  · have hz2 : shE rs (a + c) (b + d) = 0 := hy1 ▸ hz
    refine wl_call (X := Vec × Made) rfl rfl rfl rfl rfl rfl (by kernel_rfl) (fun W hp => shift_ok W q1 cq1 (mvR (shF a b) rs) c d hnx (hr1 hp 1 2 rfl rfl) hz) ?_
    rintro ⟨V3, mk3⟩ ⟨hmk3, hV3⟩
    rw [hy2] at hmk3
    have hV3' : V3.OK 1 (mvR (shF (a + c) (b + d)) rs).length (rowCells mk3) := by rw [mvR_len] at hV3 ⊢; exact hV3
    obtain ⟨q3, cq3, eV3, hr3⟩ := made_rings hmk3 hV3'
    refine wl_upd 94 (.tuple #[planV q3 (mvR (shF (a + c) (b + d)) rs).length cq3, .int .i64 0]) rfl (congrArg (fun v => Value.tuple #[.agg #[v], .int .i64 0]) (by rw [← eV3, mvR_len, mvR_len])) ?_
    refine wl_pure Tryz.hT rfl rfl rfl ?_
    refine wl_pure Tryz.hT rfl rfl rfl ?_
    refine wl_pure Tryz.hT rfl rfl rfl ?_
    (refine wl_allocZ Tryz.hZ rfl rfl rfl rfl ?_; intro)
    (first | refine wl_storeBx 0 Tryz.hT rfl rfl rfl rfl rfl rfl rfl rfl rfl rfl rfl ?_ | refine wl_storeBx 1 Tryz.hT rfl rfl rfl rfl rfl rfl rfl rfl rfl rfl rfl ?_ | refine wl_storeBx 2 Tryz.hT rfl rfl rfl rfl rfl rfl rfl rfl rfl rfl rfl ?_ | refine wl_storeBx 3 Tryz.hT rfl rfl rfl rfl rfl rfl rfl rfl rfl rfl rfl ?_ | refine wl_storeBx 4 Tryz.hT rfl rfl rfl rfl rfl rfl rfl rfl rfl rfl rfl ?_ | refine wl_storeBx 5 Tryz.hT rfl rfl rfl rfl rfl rfl rfl rfl rfl rfl rfl ?_ | refine wl_storeBx 6 Tryz.hT rfl rfl rfl rfl rfl rfl rfl rfl rfl rfl rfl ?_ | refine wl_storeBx 7 Tryz.hT rfl rfl rfl rfl rfl rfl rfl rfl rfl rfl rfl ?_ | refine wl_storeBx 8 Tryz.hT rfl rfl rfl rfl rfl rfl rfl rfl rfl rfl rfl ?_ | refine wl_storeBx 9 Tryz.hT rfl rfl rfl rfl rfl rfl rfl rfl rfl rfl rfl ?_ | refine wl_storeBx 10 Tryz.hT rfl rfl rfl rfl rfl rfl rfl rfl rfl rfl rfl ?_ | refine wl_storeBx 11 Tryz.hT rfl rfl rfl rfl rfl rfl rfl rfl rfl rfl rfl ?_ | refine wl_storeBx 12 Tryz.hT rfl rfl rfl rfl rfl rfl rfl rfl rfl rfl rfl ?_ | refine wl_storeBx 13 Tryz.hT rfl rfl rfl rfl rfl rfl rfl rfl rfl rfl rfl ?_ | refine wl_storeBx 14 Tryz.hT rfl rfl rfl rfl rfl rfl rfl rfl rfl rfl rfl ?_ | refine wl_storeBx 15 Tryz.hT rfl rfl rfl rfl rfl rfl rfl rfl rfl rfl rfl ?_)
    refine wl_pure Tryz.hT rfl rfl rfl ?_
    refine wl_nil ?_
    rename_i b19
    repeat (first | refine zA ?_ | refine zB ?_ | refine zC ?_ | refine zD ?_ | refine zE ?_ | refine zF ?_ | refine zG ?_ | refine zH ?_ | refine zI ?_ | refine zJ ?_ | refine zK ?_ | refine zL ?_ | refine zM rfl ?_ | refine zN ?_ | refine zO ?_ | refine zP ?_ | refine zQ ?_ | refine zR rfl ?_ | refine zS rfl ?_ | refine zT Tryz.mixed (by kernel_rfl) ?_)
    (first | refine wl_loadBx 0 Tryz.hT rfl rfl rfl rfl rfl rfl rfl rfl ?_ | refine wl_loadBx 1 Tryz.hT rfl rfl rfl rfl rfl rfl rfl rfl ?_ | refine wl_loadBx 2 Tryz.hT rfl rfl rfl rfl rfl rfl rfl rfl ?_ | refine wl_loadBx 3 Tryz.hT rfl rfl rfl rfl rfl rfl rfl rfl ?_ | refine wl_loadBx 4 Tryz.hT rfl rfl rfl rfl rfl rfl rfl rfl ?_ | refine wl_loadBx 5 Tryz.hT rfl rfl rfl rfl rfl rfl rfl rfl ?_ | refine wl_loadBx 6 Tryz.hT rfl rfl rfl rfl rfl rfl rfl rfl ?_ | refine wl_loadBx 7 Tryz.hT rfl rfl rfl rfl rfl rfl rfl rfl ?_ | refine wl_loadBx 8 Tryz.hT rfl rfl rfl rfl rfl rfl rfl rfl ?_ | refine wl_loadBx 9 Tryz.hT rfl rfl rfl rfl rfl rfl rfl rfl ?_ | refine wl_loadBx 10 Tryz.hT rfl rfl rfl rfl rfl rfl rfl rfl ?_ | refine wl_loadBx 11 Tryz.hT rfl rfl rfl rfl rfl rfl rfl rfl ?_ | refine wl_loadBx 12 Tryz.hT rfl rfl rfl rfl rfl rfl rfl rfl ?_ | refine wl_loadBx 13 Tryz.hT rfl rfl rfl rfl rfl rfl rfl rfl ?_ | refine wl_loadBx 14 Tryz.hT rfl rfl rfl rfl rfl rfl rfl rfl ?_ | refine wl_loadBx 15 Tryz.hT rfl rfl rfl rfl rfl rfl rfl rfl ?_)
    refine wl_pure Tryz.hT rfl rfl rfl ?_
    refine wl_conv u43 u3 rfl rfl rfl rfl ?_
    refine wl_upd 100 (.int .i64 a) rfl (congrArg (Value.int .i64) wa) ?_
    refine wl_pure Tryz.hT rfl rfl rfl ?_
    refine wl_conv u43 u3 rfl rfl rfl rfl ?_
    refine wl_upd 102 (.int .i64 c) rfl (congrArg (Value.int .i64) wc) ?_
    refine wl_pure Tryz.hT rfl rfl rfl ?_
    refine wl_upd 103 (.int .i64 (a + c)) rfl (congrArg (Value.int .i64) (show w64 (a + c) = a + c from w64_id (by omega) (by omega))) ?_
    refine wl_pure Tryz.hT rfl rfl rfl ?_
    refine wl_conv u43 u3 rfl rfl rfl rfl ?_
    refine wl_upd 105 (.int .i64 b) rfl (congrArg (Value.int .i64) wb) ?_
    refine wl_pure Tryz.hT rfl rfl rfl ?_
    refine wl_conv u43 u3 rfl rfl rfl rfl ?_
    refine wl_upd 107 (.int .i64 d) rfl (congrArg (Value.int .i64) wd) ?_
    refine wl_pure Tryz.hT rfl rfl rfl ?_
    refine wl_upd 108 (.int .i64 (b + d)) rfl (congrArg (Value.int .i64) (show w64 (b + d) = b + d from w64_id (by omega) (by omega))) ?_
    refine wl_call (X := Vec × Made) rfl rfl rfl rfl rfl rfl (by kernel_rfl) (fun W hp => shift_ok W p cap rs (a + c) (b + d) hn (hR.hp hp) hz2) ?_
    rintro ⟨V4, mk4⟩ ⟨hmk4, hV4⟩
    have hV4' : V4.OK 1 (mvR (shF (a + c) (b + d)) rs).length (rowCells mk4) := by rw [mvR_len]; exact hV4
    obtain ⟨q4, cq4, eV4, hr4⟩ := made_rings hmk4 hV4'
    refine wl_upd 109 (.tuple #[planV q4 (mvR (shF (a + c) (b + d)) rs).length cq4, .int .i64 0]) rfl (congrArg (fun v => Value.tuple #[.agg #[v], .int .i64 0]) (by rw [← eV4, mvR_len])) ?_
    refine wl_pure Tryz.hT rfl rfl rfl ?_
    refine wl_pure Tryz.hT rfl rfl rfl ?_
    refine wl_pure Tryz.hT rfl rfl rfl ?_
    (refine wl_allocZ Tryz.hZ rfl rfl rfl rfl ?_; intro)
    (first | refine wl_storeBx 0 Tryz.hT rfl rfl rfl rfl rfl rfl rfl rfl rfl rfl rfl ?_ | refine wl_storeBx 1 Tryz.hT rfl rfl rfl rfl rfl rfl rfl rfl rfl rfl rfl ?_ | refine wl_storeBx 2 Tryz.hT rfl rfl rfl rfl rfl rfl rfl rfl rfl rfl rfl ?_ | refine wl_storeBx 3 Tryz.hT rfl rfl rfl rfl rfl rfl rfl rfl rfl rfl rfl ?_ | refine wl_storeBx 4 Tryz.hT rfl rfl rfl rfl rfl rfl rfl rfl rfl rfl rfl ?_ | refine wl_storeBx 5 Tryz.hT rfl rfl rfl rfl rfl rfl rfl rfl rfl rfl rfl ?_ | refine wl_storeBx 6 Tryz.hT rfl rfl rfl rfl rfl rfl rfl rfl rfl rfl rfl ?_ | refine wl_storeBx 7 Tryz.hT rfl rfl rfl rfl rfl rfl rfl rfl rfl rfl rfl ?_ | refine wl_storeBx 8 Tryz.hT rfl rfl rfl rfl rfl rfl rfl rfl rfl rfl rfl ?_ | refine wl_storeBx 9 Tryz.hT rfl rfl rfl rfl rfl rfl rfl rfl rfl rfl rfl ?_ | refine wl_storeBx 10 Tryz.hT rfl rfl rfl rfl rfl rfl rfl rfl rfl rfl rfl ?_ | refine wl_storeBx 11 Tryz.hT rfl rfl rfl rfl rfl rfl rfl rfl rfl rfl rfl ?_ | refine wl_storeBx 12 Tryz.hT rfl rfl rfl rfl rfl rfl rfl rfl rfl rfl rfl ?_ | refine wl_storeBx 13 Tryz.hT rfl rfl rfl rfl rfl rfl rfl rfl rfl rfl rfl ?_ | refine wl_storeBx 14 Tryz.hT rfl rfl rfl rfl rfl rfl rfl rfl rfl rfl rfl ?_ | refine wl_storeBx 15 Tryz.hT rfl rfl rfl rfl rfl rfl rfl rfl rfl rfl rfl ?_)
    refine wl_pure Tryz.hT rfl rfl rfl ?_
    refine wl_nil ?_
    rename_i b21
    repeat (first | refine zA ?_ | refine zB ?_ | refine zC ?_ | refine zD ?_ | refine zE ?_ | refine zF ?_ | refine zG ?_ | refine zH ?_ | refine zI ?_ | refine zJ ?_ | refine zK ?_ | refine zL ?_ | refine zM rfl ?_ | refine zN ?_ | refine zO ?_ | refine zP ?_ | refine zQ ?_ | refine zR rfl ?_ | refine zS rfl ?_ | refine zT Tryz.mixed (by kernel_rfl) ?_)
    refine wl_pure Tryz.hT rfl rfl rfl ?_
    refine wl_pure Tryz.hT rfl rfl rfl ?_
    refine wl_pure Tryz.hT rfl rfl rfl ?_
    refine wl_pure Tryz.hT rfl rfl rfl ?_
    (first | refine wl_skip rfl rfl ?_ | refine wl_loadBx 0 Tryz.hT rfl rfl rfl rfl rfl rfl rfl rfl ?_ | refine wl_loadBx 1 Tryz.hT rfl rfl rfl rfl rfl rfl rfl rfl ?_ | refine wl_loadBx 2 Tryz.hT rfl rfl rfl rfl rfl rfl rfl rfl ?_ | refine wl_loadBx 3 Tryz.hT rfl rfl rfl rfl rfl rfl rfl rfl ?_ | refine wl_loadBx 4 Tryz.hT rfl rfl rfl rfl rfl rfl rfl rfl ?_ | refine wl_loadBx 5 Tryz.hT rfl rfl rfl rfl rfl rfl rfl rfl ?_ | refine wl_loadBx 6 Tryz.hT rfl rfl rfl rfl rfl rfl rfl rfl ?_ | refine wl_loadBx 7 Tryz.hT rfl rfl rfl rfl rfl rfl rfl rfl ?_ | refine wl_loadBx 8 Tryz.hT rfl rfl rfl rfl rfl rfl rfl rfl ?_ | refine wl_loadBx 9 Tryz.hT rfl rfl rfl rfl rfl rfl rfl rfl ?_ | refine wl_loadBx 10 Tryz.hT rfl rfl rfl rfl rfl rfl rfl rfl ?_ | refine wl_loadBx 11 Tryz.hT rfl rfl rfl rfl rfl rfl rfl rfl ?_ | refine wl_loadBx 12 Tryz.hT rfl rfl rfl rfl rfl rfl rfl rfl ?_ | refine wl_loadBx 13 Tryz.hT rfl rfl rfl rfl rfl rfl rfl rfl ?_ | refine wl_loadBx 14 Tryz.hT rfl rfl rfl rfl rfl rfl rfl rfl ?_ | refine wl_loadBx 15 Tryz.hT rfl rfl rfl rfl rfl rfl rfl rfl ?_)
    (first | refine wl_skip rfl rfl ?_ | refine wl_loadBx 0 Tryz.hT rfl rfl rfl rfl rfl rfl rfl rfl ?_ | refine wl_loadBx 1 Tryz.hT rfl rfl rfl rfl rfl rfl rfl rfl ?_ | refine wl_loadBx 2 Tryz.hT rfl rfl rfl rfl rfl rfl rfl rfl ?_ | refine wl_loadBx 3 Tryz.hT rfl rfl rfl rfl rfl rfl rfl rfl ?_ | refine wl_loadBx 4 Tryz.hT rfl rfl rfl rfl rfl rfl rfl rfl ?_ | refine wl_loadBx 5 Tryz.hT rfl rfl rfl rfl rfl rfl rfl rfl ?_ | refine wl_loadBx 6 Tryz.hT rfl rfl rfl rfl rfl rfl rfl rfl ?_ | refine wl_loadBx 7 Tryz.hT rfl rfl rfl rfl rfl rfl rfl rfl ?_ | refine wl_loadBx 8 Tryz.hT rfl rfl rfl rfl rfl rfl rfl rfl ?_ | refine wl_loadBx 9 Tryz.hT rfl rfl rfl rfl rfl rfl rfl rfl ?_ | refine wl_loadBx 10 Tryz.hT rfl rfl rfl rfl rfl rfl rfl rfl ?_ | refine wl_loadBx 11 Tryz.hT rfl rfl rfl rfl rfl rfl rfl rfl ?_ | refine wl_loadBx 12 Tryz.hT rfl rfl rfl rfl rfl rfl rfl rfl ?_ | refine wl_loadBx 13 Tryz.hT rfl rfl rfl rfl rfl rfl rfl rfl ?_ | refine wl_loadBx 14 Tryz.hT rfl rfl rfl rfl rfl rfl rfl rfl ?_ | refine wl_loadBx 15 Tryz.hT rfl rfl rfl rfl rfl rfl rfl rfl ?_)
    refine wl_call1 rfl rfl rfl rfl rfl rfl (by kernel_rfl) (fun W hp => (same_gives W q3 q4 cq3 cq4 (mvR (shF (a + c) (b + d)) rs) (mvR (shF (a + c) (b + d)) rs) (by rw [mvR_len]; omega) (fun l hl => by have := len_le_tot hl; rw [tot_mvR] at this; omega) (hr3 hp 7 8 rfl rfl) (hr4 hp 10 11 rfl rfl)).cast (by rw [decide_eq_true rfl])) ?_
    refine wl_pure Tryz.hT rfl rfl rfl ?_
    refine wl_pure Tryz.hT rfl rfl rfl ?_
    refine wl_call1 rfl rfl rfl rfl rfl rfl (by kernel_rfl) (fun W hp => awake_gives W (ht.hp hp)) ?_
    refine wl_pure Tryz.hT rfl rfl rfl ?_
    refine wl_pure Tryz.hT rfl rfl rfl ?_
    refine wl_nil ?_
    repeat (first | refine zA ?_ | refine zB ?_ | refine zC ?_ | refine zD ?_ | refine zE ?_ | refine zF ?_ | refine zG ?_ | refine zH ?_ | refine zI ?_ | refine zJ ?_ | refine zK ?_ | refine zL ?_ | refine zM rfl ?_ | refine zN ?_ | refine zO ?_ | refine zP ?_ | refine zQ ?_ | refine zR rfl ?_ | refine zS rfl ?_ | refine zT Tryz.mixed (by kernel_rfl) ?_)
    exact ne_ret1 Tryz.hT rfl (.tmp rfl) () rfl trivial fun W _ => NewBx.nil _ _
end Go.Proofs.YtnpfkmbcejgnjaaGreatDoor
