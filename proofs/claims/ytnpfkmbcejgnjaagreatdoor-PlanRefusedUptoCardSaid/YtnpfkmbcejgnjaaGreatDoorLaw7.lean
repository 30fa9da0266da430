/-
  PlanRefused returns true.
-/
import Derived.Test.YtnpfkmbcejgnjaaGreatDoorMadeAt
import Derived.Test.YtnpfkmbcejgnjaaGreatDoorAwake
import Derived.Test.YtnpfkmbcejgnjaaGreatDoorLaw3
namespace Go.Proofs.YtnpfkmbcejgnjaaGreatDoor
open Go Go.RowKit Go.Am Go.Lib
set_option maxRecDepth 10000
-- BOXES 4
-- BOXIDX t2=0 t8=3 t9=6 t13=9 t19=3
/-- The plan with gables up to ring k, side j. -/
def gbs (rs : List (List Sd)) (k : Nat) : List (List Sd) := (rs.take k).map (·.map gab) ++ rs.drop k
def gbl (l : List Sd) (j : Nat) : List Sd := (l.take j).map gab ++ l.drop j
theorem gbs_len (rs : List (List Sd)) {k : Nat} (hk : k ≤ rs.length) : (gbs rs k).length = rs.length := by
  rw [gbs, List.length_append, List.length_map, List.length_take, List.length_drop, Nat.min_eq_left hk]; omega
theorem gbl_len (l : List Sd) {j : Nat} (hj : j ≤ l.length) : (gbl l j).length = l.length := by
  rw [gbl, List.length_append, List.length_map, List.length_take, List.length_drop, Nat.min_eq_left hj]; omega
theorem rg_gbs {rs : List (List Sd)} {k : Nat} (hk : k < rs.length) : rg (gbs rs k) k = rg rs k := by
  rw [gbs, rg, List.getD_eq_getElem?_getD, List.getElem?_append_right (by rw [List.length_map, List.length_take]; omega), List.length_map, List.length_take, Nat.min_eq_left (by omega), Nat.sub_self, List.getElem?_drop, Nat.add_zero, rg_get hk]; rfl
theorem sd_gbl {l : List Sd} {j : Nat} (hj : j < l.length) : sd (gbl l j) j = sd l j := by
  rw [gbl, sd, List.getD_eq_getElem?_getD, List.getElem?_append_right (by rw [List.length_map, List.length_take]; omega), List.length_map, List.length_take, Nat.min_eq_left (by omega), Nat.sub_self, List.getElem?_drop, Nat.add_zero, sd_get hj]; rfl
theorem gbs_succ {rs : List (List Sd)} {k : Nat} (hk : k < rs.length) : (gbs rs k).set k ((rg rs k).map gab) = gbs rs (k + 1) := by
  have h1 : rs.drop k = rg rs k :: rs.drop (k + 1) := by rw [List.drop_eq_getElem_cons hk]; simp [rg, hk]
  have h2 : rs.take (k + 1) = rs.take k ++ [rg rs k] := by rw [List.take_add_one, rg_get hk]; simp
  rw [gbs, gbs, h1, h2, List.set_append_right _ _ (by rw [List.length_map, List.length_take]; omega), List.length_map, List.length_take, Nat.min_eq_left (by omega), Nat.sub_self, List.map_append, List.append_assoc]
  rfl
theorem gbl_succ {l : List Sd} {j : Nat} (hj : j < l.length) : (gbl l j).set j (gab (sd l j)) = gbl l (j + 1) := by
  have h1 : l.drop j = sd l j :: l.drop (j + 1) := by rw [List.drop_eq_getElem_cons hj]; simp [sd, hj]
  have h2 : l.take (j + 1) = l.take j ++ [sd l j] := by rw [List.take_add_one, sd_get hj]; simp
  rw [gbl, gbl, h1, h2, List.set_append_right _ _ (by rw [List.length_map, List.length_take]; omega), List.length_map, List.length_take, Nat.min_eq_left (by omega), Nat.sub_self, List.map_append, List.append_assoc]
  rfl
theorem gbs_ne {rs : List (List Sd)} (h : ∀ l ∈ rs, l ≠ []) (k : Nat) : ∀ l ∈ gbs rs k, l ≠ [] := fun l hl => by
  rcases List.mem_append.1 hl with hl | hl
  · obtain ⟨m, hm, rfl⟩ := List.mem_map.1 hl
    exact fun e => h m (List.mem_of_mem_take hm) (List.map_eq_nil_iff.1 e)
  · exact h l (List.mem_of_mem_drop hl)
theorem gbs_all (rs : List (List Sd)) : gbs rs rs.length = rs.map (·.map gab) := by rw [gbs, List.take_length, List.drop_length, List.append_nil]
theorem gbl_all (l : List Sd) : gbl l l.length = l.map gab := by rw [gbl, List.take_length, List.drop_length, List.append_nil]
theorem set_twice (l : List Sd) (j : Nat) (s t : Sd) : (l.set j s).set j t = l.set j t := List.set_set ..
theorem splice_one (c : List Value) (r : Nat) (v : Value) (h : r < c.length) (d : List Value) : splice (c ++ d) (0 + r * 1) [v] = c.set r v ++ d := by
  rw [Nat.mul_one, Nat.zero_add]
  have e : splice (c ++ d) r [v] = (c ++ d).set r v := by
    rw [List.set_eq_take_append_cons_drop, if_pos (by rw [List.length_append]; omega)]
    simp [splice]
  rw [e, List.set_append_left _ _ h]
theorem rings_of {mk : Made} {rs : List (List Sd)} (h : MadeOK mk rs) {g cp n : Nat} {jk : List Value} (hn : rs.length = n) (hV : (⟨some g, cp, jk⟩ : Vec).OK 1 n (rowCells mk)) {W0 W : World} {bxs : List Bx} (hp : Hp W0 bxs W) (k i : Nat) (hk : nth bxs k = some ⟨g, 27, rowCells mk ++ jk, true, none⟩) (hi : nth bxs i = some (mkB mk)) : RingsP W (some ⟨g, 0, none⟩) rs := by
  subst hn
  obtain ⟨p, cap, e, f⟩ := made_rings h hV
  have e' : Value.slice (some ⟨g, 0, none⟩) rs.length cp = slv p rs.length cap := e
  injection e' with e1 _ _
  rw [e1]
  exact f hp k i hk hi
theorem chk14 (W : World) {g cp n : Nat} {rs : List (List Sd)} (hn : rs.length = n) (h40 : n ≤ 40) (hT : tot rs < 1099511627776) (h14 : chk rs = 14) (hR : RingsP W (some ⟨g, 0, none⟩) rs) :
    CallsR Tryz.prog 23 #[planV (some ⟨g, 0, none⟩) n cp] W (fun _ : Unit => .int .i64 14) (fun _ => True) (fun _ => []) := by
  subst hn
  have h := check_gives W (some ⟨g, 0, none⟩) cp rs (by omega) hT hR
  rw [h14] at h
  exact h
theorem grp_side {W0 W : World} {bxs : List Bx} (hp : Hp W0 bxs W) (k : Nat) {L : List Sd} {g : Nat} {junk : List Value} {La Lb : List (Nat × Obj)} (hk : nth bxs k = some (grpB (La ++ (g, ringO L junk) :: Lb))) {i : Nat} (hi : i < L.length) : RowAt W g (0 + i * 7) (sd L i).cells := by
  have h := RowAt.of_grp hp k hk (g := g) (c := cellsOf L ++ junk) (ty := 42) (List.mem_append_right _ (List.mem_cons_self ..))
  refine ⟨h.lt, fun m u hu => ?_⟩
  have hm : m < 7 := (List.getElem?_eq_some_iff.1 hu).1
  have h1 := cellsOf_get L i (sd L i) (sd_get hi) m hm
  rw [hu] at h1
  have := h.get (i * 7 + m) u (by rw [List.getElem?_append_left (List.getElem?_eq_some_iff.1 h1).1]; exact h1)
  rw [Nat.zero_add] at this ⊢
  exact this
set_option maxHeartbeats 16000000 in
theorem refused_gives (W : World) (p : Option Addr) (cap : Nat) (rs : List (List Sd)) (n : Int) (hn : rs.length < 4611686018427387904) (hT : tot rs < 4611686018427387904) (hR : RingsP W p rs) (ht : TabP W) (hcap : rs.length ≤ cap) (hz : 0 ≤ n ∧ n ≤ 255) :
    CallsR Tryz.prog 7 #[planV p rs.length cap, .int .u8 n] W (fun _ : Unit => .bool true) (fun _ => True) (fun _ => []) := by
  refine calls_enter (args := [planV p rs.length cap, .int .u8 n]) Tryz.func7 rfl rfl rfl ?_
  repeat (first | refine zA ?_ | refine zB ?_ | refine zC ?_ | refine zD ?_ | refine zE ?_ | refine zF ?_ | refine zG ?_ | refine zH ?_ | refine zI ?_ | refine zJ ?_ | refine zK ?_ | refine zL ?_ | refine zM rfl ?_ | refine zN ?_ | refine zO ?_ | refine zP ?_ | refine zQ ?_ | refine zR rfl ?_ | refine zS rfl ?_ | refine zT Tryz.mixed (by kernel_rfl) ?_)
  (refine wl_box rfl rfl rfl rfl ?_; intro)
  refine wl_pure Tryz.hT rfl rfl rfl ?_
  refine wl_nil ?_
  rename_i b2
  repeat (first | refine zA ?_ | refine zB ?_ | refine zC ?_ | refine zD ?_ | refine zE ?_ | refine zF ?_ | refine zG ?_ | refine zH ?_ | refine zI ?_ | refine zJ ?_ | refine zK ?_ | refine zL ?_ | refine zM rfl ?_ | refine zN ?_ | refine zO ?_ | refine zP ?_ | refine zQ ?_ | refine zR rfl ?_ | refine zS rfl ?_ | refine zT Tryz.mixed (by kernel_rfl) ?_)
  (first | refine wl_loadBx 0 Tryz.hT rfl rfl rfl rfl rfl rfl rfl rfl ?_)
  refine wl_call1 rfl rfl rfl rfl rfl rfl (by kernel_rfl) (fun W hp => fine_gives W p cap rs hn hT (hR.hp hp)) ?_
  refine wl_pure Tryz.hT rfl rfl rfl ?_
  refine wl_nil ?_
  repeat (first | refine zA ?_ | refine zB ?_ | refine zC ?_ | refine zD ?_ | refine zE ?_ | refine zF ?_ | refine zG ?_ | refine zH ?_ | refine zI ?_ | refine zJ ?_ | refine zK ?_ | refine zL ?_ | refine zM rfl ?_ | refine zN ?_ | refine zO ?_ | refine zP ?_ | refine zQ ?_ | refine zR rfl ?_ | refine zS rfl ?_ | refine zT Tryz.mixed (by kernel_rfl) ?_)
  refine wc_cond rfl (fun hfine => ?_) (fun hfine => ?_)
  · repeat (first | refine zA ?_ | refine zB ?_ | refine zC ?_ | refine zD ?_ | refine zE ?_ | refine zF ?_ | refine zG ?_ | refine zH ?_ | refine zI ?_ | refine zJ ?_ | refine zK ?_ | refine zL ?_ | refine zM rfl ?_ | refine zN ?_ | refine zO ?_ | refine zP ?_ | refine zQ ?_ | refine zR rfl ?_ | refine zS rfl ?_ | refine zT Tryz.mixed (by kernel_rfl) ?_)
    refine wl_call1 rfl rfl rfl rfl rfl rfl (by kernel_rfl) (fun W hp => awake_gives W (ht.hp hp)) ?_
    refine wl_pure Tryz.hT rfl rfl rfl ?_
    refine wl_nil ?_
    repeat (first | refine zA ?_ | refine zB ?_ | refine zC ?_ | refine zD ?_ | refine zE ?_ | refine zF ?_ | refine zG ?_ | refine zH ?_ | refine zI ?_ | refine zJ ?_ | refine zK ?_ | refine zL ?_ | refine zM rfl ?_ | refine zN ?_ | refine zO ?_ | refine zP ?_ | refine zQ ?_ | refine zR rfl ?_ | refine zS rfl ?_ | refine zT Tryz.mixed (by kernel_rfl) ?_)
    exact ne_ret1 Tryz.hT rfl (.tmp rfl) () rfl trivial fun W _ => NewBx.nil _ _
  have hfine : fineB rs = true := by simpa using hfine
  unfold fineB at hfine
  obtain ⟨hg0, hc0⟩ := Bool.and_eq_true_iff.1 hfine
  have hc : chk rs = 0 := by simpa using hc0
  obtain ⟨hne, h24, h0⟩ := chk_ne hc
  have h12 : tot rs ≤ 12 := by
    have h1 : grt rs 12 = false := by simpa using hg0
    unfold grt at h1
    simp only [Bool.or_eq_false_iff, Bool.and_eq_false_iff, decide_eq_false_iff_not] at h1
    omega
  have hsm : rs.length ≤ 40 := (grt_small (m := 12) (by simpa using hg0)).2
  clear hfine hc0 hg0
  obtain ⟨m, rfl⟩ : ∃ m : Nat, n = m := ⟨n.toNat, by omega⟩
  have hl0 : 0 < rs.length := by
    cases rs with
    | nil => exact absurd rfl h0
    | cons a l => exact Nat.succ_pos _
  obtain ⟨r, hrm⟩ : ∃ r, r = m % rs.length := ⟨_, rfl⟩
  have hr : r < rs.length := by rw [hrm]; exact Nat.mod_lt _ hl0
  have hlr : 0 < (rg rs r).length := List.length_pos_iff.2 (hne _ (List.mem_of_getElem? (rg_get hr)))
  obtain ⟨i, him⟩ : ∃ i, i = m % (rg rs r).length := ⟨_, rfl⟩
  have hi : i < (rg rs r).length := by rw [him]; exact Nat.mod_lt _ hlr
  obtain ⟨b, off, rfl, hrow⟩ := hR.row hr
  obtain ⟨q, cap2, hq1, hq2⟩ := hrow r hr
  obtain ⟨bq, oq, rfl, hrq⟩ := hq2.row hi
  repeat (first | refine zA ?_ | refine zB ?_ | refine zC ?_ | refine zD ?_ | refine zE ?_ | refine zF ?_ | refine zG ?_ | refine zH ?_ | refine zI ?_ | refine zJ ?_ | refine zK ?_ | refine zL ?_ | refine zM rfl ?_ | refine zN ?_ | refine zO ?_ | refine zP ?_ | refine zQ ?_ | refine zR rfl ?_ | refine zS rfl ?_ | refine zT Tryz.mixed (by kernel_rfl) ?_)
  refine wl_pure Tryz.hT rfl rfl rfl ?_
  refine wl_pure Tryz.hT rfl rfl rfl ?_
  refine wl_nil ?_
  have u3 := Tryz.underlying3
  have u5 := Tryz.underlying5
  have hm255 : m ≤ 255 := by omega
  have hw0 : IntKind.i64.wrap ((m : Nat) : Int) = ((m : Nat) : Int) := wrap_id (by omega) (by omega)
  repeat (first | refine zA ?_ | refine zB ?_ | refine zC ?_ | refine zD ?_ | refine zE ?_ | refine zF ?_ | refine zG ?_ | refine zH ?_ | refine zI ?_ | refine zJ ?_ | refine zK ?_ | refine zL ?_ | refine zM rfl ?_ | refine zN ?_ | refine zO ?_ | refine zP ?_ | refine zQ ?_ | refine zR rfl ?_ | refine zS rfl ?_ | refine zT Tryz.mixed (by kernel_rfl) ?_)
  refine wl_pure Tryz.hT rfl rfl rfl ?_
  refine wl_cvA u5 u3 rfl rfl rfl rfl ?_
  refine wl_pure Tryz.hT rfl rfl rfl ?_
  (first | refine wl_loadBx 0 Tryz.hT rfl rfl rfl rfl rfl rfl rfl rfl ?_)
  refine wl_pure Tryz.hT rfl rfl rfl ?_
  refine wl_rem rfl rfl rfl rfl rfl (by omega) ?_
  refine wl_upd 30 (.int .i64 (r : Nat)) rfl (congrArg (Value.int .i64) ((congrArg (fun z => Int.tmod z ((rs.length : Nat) : Int)) hw0).trans (by rw [hrm]; rfl))) ?_
  refine wl_pure Tryz.hT rfl rfl rfl ?_
  refine wl_nil ?_
  repeat (first | refine zA ?_ | refine zB ?_ | refine zC ?_ | refine zD ?_ | refine zE ?_ | refine zF ?_ | refine zG ?_ | refine zH ?_ | refine zI ?_ | refine zJ ?_ | refine zK ?_ | refine zL ?_ | refine zM rfl ?_ | refine zN ?_ | refine zO ?_ | refine zP ?_ | refine zQ ?_ | refine zR rfl ?_ | refine zS rfl ?_ | refine zT Tryz.mixed (by kernel_rfl) ?_)
  refine wl_pure Tryz.hT rfl rfl rfl ?_
  refine wl_cvA u5 u3 rfl rfl rfl rfl ?_
  refine wl_pure Tryz.hT rfl rfl rfl ?_
  (first | refine wl_loadBx 0 Tryz.hT rfl rfl rfl rfl rfl rfl rfl rfl ?_)
  refine wl_pure Tryz.hT rfl rfl rfl ?_
  (first | refine wl_indexAddr Tryz.hT rfl rfl rfl rfl rfl rfl rfl (by omega) (by omega) ?_ | refine wq_indexAddr Tryz.hT rfl rfl rfl rfl rfl rfl rfl (by omega) (by omega) ?_)
  (first | refine wl_load rfl rfl rfl rfl (fun W hp => RowAt.load 0 Tryz.hT rfl ((fun W hp => hq1.hp hp) W hp) rfl) ?_ | refine wl_load rfl rfl rfl rfl (fun W hp => RowAt.load 1 Tryz.hT rfl ((fun W hp => hq1.hp hp) W hp) rfl) ?_ | refine wl_load rfl rfl rfl rfl (fun W hp => RowAt.load 2 Tryz.hT rfl ((fun W hp => hq1.hp hp) W hp) rfl) ?_ | refine wl_load rfl rfl rfl rfl (fun W hp => RowAt.load 3 Tryz.hT rfl ((fun W hp => hq1.hp hp) W hp) rfl) ?_ | refine wl_load rfl rfl rfl rfl (fun W hp => RowAt.load 4 Tryz.hT rfl ((fun W hp => hq1.hp hp) W hp) rfl) ?_ | refine wl_load rfl rfl rfl rfl (fun W hp => RowAt.load 5 Tryz.hT rfl ((fun W hp => hq1.hp hp) W hp) rfl) ?_ | refine wl_load rfl rfl rfl rfl (fun W hp => RowAt.load 6 Tryz.hT rfl ((fun W hp => hq1.hp hp) W hp) rfl) ?_ | refine wl_load rfl rfl rfl rfl (fun W hp => RowAt.load 7 Tryz.hT rfl ((fun W hp => hq1.hp hp) W hp) rfl) ?_ | refine wq_load rfl rfl rfl rfl (fun W hp => RowAt.load 0 Tryz.hT rfl ((fun W hp => hq1.hp hp) W hp) rfl) ?_ | refine wq_load rfl rfl rfl rfl (fun W hp => RowAt.load 1 Tryz.hT rfl ((fun W hp => hq1.hp hp) W hp) rfl) ?_ | refine wq_load rfl rfl rfl rfl (fun W hp => RowAt.load 2 Tryz.hT rfl ((fun W hp => hq1.hp hp) W hp) rfl) ?_ | refine wq_load rfl rfl rfl rfl (fun W hp => RowAt.load 3 Tryz.hT rfl ((fun W hp => hq1.hp hp) W hp) rfl) ?_ | refine wq_load rfl rfl rfl rfl (fun W hp => RowAt.load 4 Tryz.hT rfl ((fun W hp => hq1.hp hp) W hp) rfl) ?_ | refine wq_load rfl rfl rfl rfl (fun W hp => RowAt.load 5 Tryz.hT rfl ((fun W hp => hq1.hp hp) W hp) rfl) ?_ | refine wq_load rfl rfl rfl rfl (fun W hp => RowAt.load 6 Tryz.hT rfl ((fun W hp => hq1.hp hp) W hp) rfl) ?_ | refine wq_load rfl rfl rfl rfl (fun W hp => RowAt.load 7 Tryz.hT rfl ((fun W hp => hq1.hp hp) W hp) rfl) ?_)
  refine wl_pure Tryz.hT rfl rfl rfl ?_
  refine wl_rem rfl rfl rfl rfl rfl (by omega) ?_
  refine wl_upd 39 (.int .i64 (i : Nat)) rfl (congrArg (Value.int .i64) ((congrArg (fun z => Int.tmod z (((rg rs r).length : Nat) : Int)) hw0).trans (by rw [him]; rfl))) ?_
  refine wl_pure Tryz.hT rfl rfl rfl ?_
  refine wl_nil ?_
  repeat (first | refine zA ?_ | refine zB ?_ | refine zC ?_ | refine zD ?_ | refine zE ?_ | refine zF ?_ | refine zG ?_ | refine zH ?_ | refine zI ?_ | refine zJ ?_ | refine zK ?_ | refine zL ?_ | refine zM rfl ?_ | refine zN ?_ | refine zO ?_ | refine zP ?_ | refine zQ ?_ | refine zR rfl ?_ | refine zS rfl ?_ | refine zT Tryz.mixed (by kernel_rfl) ?_)
  refine wl_pure Tryz.hT rfl rfl rfl ?_
  have hcop : ∀ {W1 : World} {bxs : List Bx}, Hp W bxs W1 → nth bxs 0 = some ⟨b2, 24, [slv (some ⟨b, off, none⟩) rs.length cap], true, none⟩ → CallsR Tryz.prog 29 #[.pointer (some ⟨b2, 0, none⟩)] W1 (fun x : Vec × Made => .agg #[x.1.val rs.length]) (fun x => MadeOK x.2 rs ∧ x.1.OK 1 rs.length (rowCells x.2)) (fun x => [x.1.bx 27 (rowCells x.2), mkB x.2]) :=
    fun {W1} {bxs} hp h0 => copied_gives W1 b2 (some ⟨b, off, none⟩) cap rs (by omega) (by omega) (RowAt.of_bx hp 0 h0 rfl) (hR.hp hp) hne
  refine wl_call (X := Vec × Made) rfl rfl rfl rfl rfl rfl (by kernel_rfl) (fun W1 hp => hcop hp rfl) ?_
  rintro ⟨V1, mk1⟩ ⟨hmk1, hV1⟩
  obtain ⟨p1, cp1, jk1⟩ := V1
  cases p1 with
  | none => have := hV1.nil rfl; omega
  | some g1 =>
  refine wl_upd 41 (planV (some ⟨g1, 0, none⟩) rs.length cp1) rfl rfl ?_
  (refine wl_allocZ Tryz.hZ rfl rfl rfl rfl ?_; intro)
  (first | refine wl_storeBx 3 Tryz.hT rfl rfl rfl rfl rfl rfl rfl rfl rfl rfl rfl ?_)
  refine wl_nil ?_
  rename_i b8
  obtain ⟨gU1, cU1, jU1, La1, Lb1, hat1⟩ := made_at hmk1 hne hr
  obtain ⟨mk1', hmk1', hB1', hrow1'⟩ := hat1.same (l' := (rg rs r).reverse) (List.length_reverse)
  repeat (first | refine zA ?_ | refine zB ?_ | refine zC ?_ | refine zD ?_ | refine zE ?_ | refine zF ?_ | refine zG ?_ | refine zH ?_ | refine zI ?_ | refine zJ ?_ | refine zK ?_ | refine zL ?_ | refine zM rfl ?_ | refine zN ?_ | refine zO ?_ | refine zP ?_ | refine zQ ?_ | refine zR rfl ?_ | refine zS rfl ?_ | refine zT Tryz.mixed (by kernel_rfl) ?_)
  refine wl_pure Tryz.hT rfl rfl rfl ?_
  (first | refine wl_loadBx 3 Tryz.hT rfl rfl rfl rfl rfl rfl rfl rfl ?_)
  refine wl_pure Tryz.hT rfl rfl rfl ?_
  (first | refine wl_indexAddr Tryz.hT rfl rfl rfl rfl rfl rfl rfl (by omega) (by omega) ?_ | refine wq_indexAddr Tryz.hT rfl rfl rfl rfl rfl rfl rfl (by omega) (by omega) ?_)
  (first | refine wl_load rfl rfl rfl rfl (fun W hp => RowAt.load 0 Tryz.hT rfl ((fun W1 hp => row_val hp 1 rfl hat1.val) W hp) rfl) ?_ | refine wl_load rfl rfl rfl rfl (fun W hp => RowAt.load 1 Tryz.hT rfl ((fun W1 hp => row_val hp 1 rfl hat1.val) W hp) rfl) ?_ | refine wl_load rfl rfl rfl rfl (fun W hp => RowAt.load 2 Tryz.hT rfl ((fun W1 hp => row_val hp 1 rfl hat1.val) W hp) rfl) ?_ | refine wl_load rfl rfl rfl rfl (fun W hp => RowAt.load 3 Tryz.hT rfl ((fun W1 hp => row_val hp 1 rfl hat1.val) W hp) rfl) ?_ | refine wl_load rfl rfl rfl rfl (fun W hp => RowAt.load 4 Tryz.hT rfl ((fun W1 hp => row_val hp 1 rfl hat1.val) W hp) rfl) ?_ | refine wl_load rfl rfl rfl rfl (fun W hp => RowAt.load 5 Tryz.hT rfl ((fun W1 hp => row_val hp 1 rfl hat1.val) W hp) rfl) ?_ | refine wl_load rfl rfl rfl rfl (fun W hp => RowAt.load 6 Tryz.hT rfl ((fun W1 hp => row_val hp 1 rfl hat1.val) W hp) rfl) ?_ | refine wl_load rfl rfl rfl rfl (fun W hp => RowAt.load 7 Tryz.hT rfl ((fun W1 hp => row_val hp 1 rfl hat1.val) W hp) rfl) ?_ | refine wq_load rfl rfl rfl rfl (fun W hp => RowAt.load 0 Tryz.hT rfl ((fun W1 hp => row_val hp 1 rfl hat1.val) W hp) rfl) ?_ | refine wq_load rfl rfl rfl rfl (fun W hp => RowAt.load 1 Tryz.hT rfl ((fun W1 hp => row_val hp 1 rfl hat1.val) W hp) rfl) ?_ | refine wq_load rfl rfl rfl rfl (fun W hp => RowAt.load 2 Tryz.hT rfl ((fun W1 hp => row_val hp 1 rfl hat1.val) W hp) rfl) ?_ | refine wq_load rfl rfl rfl rfl (fun W hp => RowAt.load 3 Tryz.hT rfl ((fun W1 hp => row_val hp 1 rfl hat1.val) W hp) rfl) ?_ | refine wq_load rfl rfl rfl rfl (fun W hp => RowAt.load 4 Tryz.hT rfl ((fun W1 hp => row_val hp 1 rfl hat1.val) W hp) rfl) ?_ | refine wq_load rfl rfl rfl rfl (fun W hp => RowAt.load 5 Tryz.hT rfl ((fun W1 hp => row_val hp 1 rfl hat1.val) W hp) rfl) ?_ | refine wq_load rfl rfl rfl rfl (fun W hp => RowAt.load 6 Tryz.hT rfl ((fun W1 hp => row_val hp 1 rfl hat1.val) W hp) rfl) ?_ | refine wq_load rfl rfl rfl rfl (fun W hp => RowAt.load 7 Tryz.hT rfl ((fun W1 hp => row_val hp 1 rfl hat1.val) W hp) rfl) ?_)
  have hlen : (rg rs r).length ≤ 12 := by have := len_le_tot (List.mem_of_getElem? (rg_get hr)); omega
  refine wl_callN (X := Unit) (val := fun _ => .tuple #[]) (Φ := fun _ => True) 2 (B := mkB mk1) (L1 := La1) (L2 := Lb1) (b := gU1) (ob := ringO (rg rs r) jU1) (fun _ => mkB mk1') (g' := fun _ => gU1) (o' := fun _ => ringO (rg rs r).reverse jU1) rfl rfl rfl rfl rfl rfl (by kernel_rfl) rfl
    (congrArg Bx.blk hat1.blk) (fun _ _ => congrArg Bx.blk hB1') (fun W1 hp => reverse_gives W1 gU1 cU1 jU1 (rg rs r) hlr (by omega) (hp.own.cell 2 (mkB mk1) rfl (gU1, ringO (rg rs r) jU1) (by rw [congrArg Bx.blk hat1.blk]; exact List.mem_append_right _ (List.mem_cons_self ..))).1) ?_
  intro _ _
  repeat (first | refine zA ?_ | refine zB ?_ | refine zC ?_ | refine zD ?_ | refine zE ?_ | refine zF ?_ | refine zG ?_ | refine zH ?_ | refine zI ?_ | refine zJ ?_ | refine zK ?_ | refine zL ?_ | refine zM rfl ?_ | refine zN ?_ | refine zO ?_ | refine zP ?_ | refine zQ ?_ | refine zR rfl ?_ | refine zS rfl ?_ | refine zT Tryz.mixed (by kernel_rfl) ?_)
  refine wl_pure Tryz.hT rfl rfl rfl ?_
  refine wl_call (X := Vec × Made) rfl rfl rfl rfl rfl rfl (by kernel_rfl) (fun W1 hp => hcop hp rfl) ?_
  rintro ⟨V2, mk2⟩ ⟨hmk2, hV2⟩
  obtain ⟨p2, cp2, jk2⟩ := V2
  cases p2 with
  | none => have := hV2.nil rfl; omega
  | some g2 =>
  refine wl_upd 49 (planV (some ⟨g2, 0, none⟩) rs.length cp2) rfl rfl ?_
  (refine wl_allocZ Tryz.hZ rfl rfl rfl rfl ?_; intro)
  (first | refine wl_storeBx 6 Tryz.hT rfl rfl rfl rfl rfl rfl rfl rfl rfl rfl rfl ?_)
  refine wl_nil ?_
  rename_i b9
  repeat (first | refine zA ?_ | refine zB ?_ | refine zC ?_ | refine zD ?_ | refine zE ?_ | refine zF ?_ | refine zG ?_ | refine zH ?_ | refine zI ?_ | refine zJ ?_ | refine zK ?_ | refine zL ?_ | refine zM rfl ?_ | refine zN ?_ | refine zO ?_ | refine zP ?_ | refine zQ ?_ | refine zR rfl ?_ | refine zS rfl ?_ | refine zT Tryz.mixed (by kernel_rfl) ?_)
  refine wl_pure Tryz.hT rfl rfl rfl ?_
  (first | refine wl_loadBx 6 Tryz.hT rfl rfl rfl rfl rfl rfl rfl rfl ?_)
  refine wl_pure Tryz.hT rfl rfl rfl ?_
  refine wl_pure Tryz.hT rfl rfl rfl ?_
  refine wl_nil ?_
  repeat (first | refine zA ?_ | refine zB ?_ | refine zC ?_ | refine zD ?_ | refine zE ?_ | refine zF ?_ | refine zG ?_ | refine zH ?_ | refine zI ?_ | refine zJ ?_ | refine zK ?_ | refine zL ?_ | refine zM rfl ?_ | refine zN ?_ | refine zO ?_ | refine zP ?_ | refine zQ ?_ | refine zR rfl ?_ | refine zS rfl ?_ | refine zT Tryz.mixed (by kernel_rfl) ?_)
  refine wc_loop (X := Nat × Made) (fun x => [(2, .pointer (some ⟨b2, 0, none⟩)), (5, .func (.func 29) #[] #[.pointer (some ⟨b2, 0, none⟩)]), (6, .int .i64 (r : Nat)), (7, .int .i64 (i : Nat)), (8, .pointer (some ⟨b8, 0, none⟩)), (9, .pointer (some ⟨b9, 0, none⟩)), (51, slv (some ⟨g2, 0, none⟩) rs.length cp2), (52, .int .i64 (rs.length : Nat)), (53, .int .i64 (x.1 : Nat))])
    (fun x => [⟨b2, 24, [slv (some ⟨b, off, none⟩) rs.length cap], true, none⟩, ⟨g1, 27, rowCells mk1 ++ jk1, true, none⟩, mkB mk1', ⟨b8, 24, [slv (some ⟨g1, 0, none⟩) rs.length cp1], true, none⟩, ⟨g2, 27, rowCells mk2 ++ jk2, true, none⟩, mkB x.2, ⟨b9, 24, [slv (some ⟨g2, 0, none⟩) rs.length cp2], true, none⟩])
    (fun x => x.1 ≤ rs.length ∧ MadeOK x.2 (gbs rs x.1) ∧ rowCells x.2 = rowCells mk2) (fun x => rs.length - x.1) (0, mk2) ⟨Nat.zero_le _, hmk2, rfl⟩ ⟨rfl, rfl, rfl, rfl, rfl, rfl, rfl, rfl, rfl, trivial⟩ [] rfl ?_
  rintro ⟨k, mk⟩ ⟨hk0, hmk0, hrw0⟩
  have hk : k ≤ rs.length := hk0
  have hmk : MadeOK mk (gbs rs k) := hmk0
  have hrw : rowCells mk = rowCells mk2 := hrw0
  clear hk0 hmk0 hrw0
  repeat (first | refine zA ?_ | refine zB ?_ | refine zC ?_ | refine zD ?_ | refine zE ?_ | refine zF ?_ | refine zG ?_ | refine zH ?_ | refine zI ?_ | refine zJ ?_ | refine zK ?_ | refine zL ?_ | refine zM rfl ?_ | refine zN ?_ | refine zO ?_ | refine zP ?_ | refine zQ ?_ | refine zR rfl ?_ | refine zS rfl ?_ | refine zT Tryz.mixed (by kernel_rfl) ?_)
  refine wl_pure Tryz.hT rfl rfl rfl ?_
  refine wl_nil ?_
  repeat (first | refine zA ?_ | refine zB ?_ | refine zC ?_ | refine zD ?_ | refine zE ?_ | refine zF ?_ | refine zG ?_ | refine zH ?_ | refine zI ?_ | refine zJ ?_ | refine zK ?_ | refine zL ?_ | refine zM rfl ?_ | refine zN ?_ | refine zO ?_ | refine zP ?_ | refine zQ ?_ | refine zR rfl ?_ | refine zS rfl ?_ | refine zT Tryz.mixed (by kernel_rfl) ?_)
  refine wc_cond rfl (fun h => ?_) (fun h => ?_)
  · have hk : k < rs.length := by have h' : decide ((k : Int) < (rs.length : Nat)) = true := h; rw [decide_eq_true_iff] at h'; omega
    clear h
    obtain ⟨gU, cU, jU, La, Lb, hat⟩ := made_at hmk (gbs_ne hne k) (r := k) (by rw [gbs_len rs (by omega)]; exact hk)
    obtain ⟨mk', hmk', hB', hrow'⟩ := hat.same (l' := (rg rs k).map gab) (by rw [List.length_map, rg_gbs hk])
    have hval := hat.val
    have hok := hat.ok
    have hblk := hat.blk
    rw [rg_gbs hk] at hval hok hblk
    rw [hrw] at hval hrow'
    rw [gbs_succ hk] at hmk'
    have hlk : (rg rs k).length ≤ 12 := by have := len_le_tot (List.mem_of_getElem? (rg_get hk)); omega
    repeat (first | refine zA ?_ | refine zB ?_ | refine zC ?_ | refine zD ?_ | refine zE ?_ | refine zF ?_ | refine zG ?_ | refine zH ?_ | refine zI ?_ | refine zJ ?_ | refine zK ?_ | refine zL ?_ | refine zM rfl ?_ | refine zN ?_ | refine zO ?_ | refine zP ?_ | refine zQ ?_ | refine zR rfl ?_ | refine zS rfl ?_ | refine zT Tryz.mixed (by kernel_rfl) ?_)
    (first | refine wl_indexAddr Tryz.hT rfl rfl rfl rfl rfl rfl rfl (by omega) (by omega) ?_ | refine wq_indexAddr Tryz.hT rfl rfl rfl rfl rfl rfl rfl (by omega) (by omega) ?_)
    (first | refine wl_load rfl rfl rfl rfl (fun W hp => RowAt.load 0 Tryz.hT rfl ((fun W1 hp => row_val hp 4 rfl hval) W hp) rfl) ?_ | refine wl_load rfl rfl rfl rfl (fun W hp => RowAt.load 1 Tryz.hT rfl ((fun W1 hp => row_val hp 4 rfl hval) W hp) rfl) ?_ | refine wl_load rfl rfl rfl rfl (fun W hp => RowAt.load 2 Tryz.hT rfl ((fun W1 hp => row_val hp 4 rfl hval) W hp) rfl) ?_ | refine wl_load rfl rfl rfl rfl (fun W hp => RowAt.load 3 Tryz.hT rfl ((fun W1 hp => row_val hp 4 rfl hval) W hp) rfl) ?_ | refine wl_load rfl rfl rfl rfl (fun W hp => RowAt.load 4 Tryz.hT rfl ((fun W1 hp => row_val hp 4 rfl hval) W hp) rfl) ?_ | refine wl_load rfl rfl rfl rfl (fun W hp => RowAt.load 5 Tryz.hT rfl ((fun W1 hp => row_val hp 4 rfl hval) W hp) rfl) ?_ | refine wl_load rfl rfl rfl rfl (fun W hp => RowAt.load 6 Tryz.hT rfl ((fun W1 hp => row_val hp 4 rfl hval) W hp) rfl) ?_ | refine wl_load rfl rfl rfl rfl (fun W hp => RowAt.load 7 Tryz.hT rfl ((fun W1 hp => row_val hp 4 rfl hval) W hp) rfl) ?_ | refine wq_load rfl rfl rfl rfl (fun W hp => RowAt.load 0 Tryz.hT rfl ((fun W1 hp => row_val hp 4 rfl hval) W hp) rfl) ?_ | refine wq_load rfl rfl rfl rfl (fun W hp => RowAt.load 1 Tryz.hT rfl ((fun W1 hp => row_val hp 4 rfl hval) W hp) rfl) ?_ | refine wq_load rfl rfl rfl rfl (fun W hp => RowAt.load 2 Tryz.hT rfl ((fun W1 hp => row_val hp 4 rfl hval) W hp) rfl) ?_ | refine wq_load rfl rfl rfl rfl (fun W hp => RowAt.load 3 Tryz.hT rfl ((fun W1 hp => row_val hp 4 rfl hval) W hp) rfl) ?_ | refine wq_load rfl rfl rfl rfl (fun W hp => RowAt.load 4 Tryz.hT rfl ((fun W1 hp => row_val hp 4 rfl hval) W hp) rfl) ?_ | refine wq_load rfl rfl rfl rfl (fun W hp => RowAt.load 5 Tryz.hT rfl ((fun W1 hp => row_val hp 4 rfl hval) W hp) rfl) ?_ | refine wq_load rfl rfl rfl rfl (fun W hp => RowAt.load 6 Tryz.hT rfl ((fun W1 hp => row_val hp 4 rfl hval) W hp) rfl) ?_ | refine wq_load rfl rfl rfl rfl (fun W hp => RowAt.load 7 Tryz.hT rfl ((fun W1 hp => row_val hp 4 rfl hval) W hp) rfl) ?_)
    refine wl_pure Tryz.hT rfl rfl rfl ?_
    refine wl_nil ?_
    repeat (first | refine zA ?_ | refine zB ?_ | refine zC ?_ | refine zD ?_ | refine zE ?_ | refine zF ?_ | refine zG ?_ | refine zH ?_ | refine zI ?_ | refine zJ ?_ | refine zK ?_ | refine zL ?_ | refine zM rfl ?_ | refine zN ?_ | refine zO ?_ | refine zP ?_ | refine zQ ?_ | refine zR rfl ?_ | refine zS rfl ?_ | refine zT Tryz.mixed (by kernel_rfl) ?_)
    refine wl_pure Tryz.hT rfl rfl rfl ?_
    refine wl_pure Tryz.hT rfl rfl rfl ?_
    refine wl_pure Tryz.hT rfl rfl rfl ?_
    refine wl_nil ?_
    repeat (first | refine zA ?_ | refine zB ?_ | refine zC ?_ | refine zD ?_ | refine zE ?_ | refine zF ?_ | refine zG ?_ | refine zH ?_ | refine zI ?_ | refine zJ ?_ | refine zK ?_ | refine zL ?_ | refine zM rfl ?_ | refine zN ?_ | refine zO ?_ | refine zP ?_ | refine zQ ?_ | refine zR rfl ?_ | refine zS rfl ?_ | refine zT Tryz.mixed (by kernel_rfl) ?_)
    rw [hblk]
    refine wc_loop (X := Nat) (fun j => [(2, .pointer (some ⟨b2, 0, none⟩)), (5, .func (.func 29) #[] #[.pointer (some ⟨b2, 0, none⟩)]), (6, .int .i64 (r : Nat)), (7, .int .i64 (i : Nat)), (8, .pointer (some ⟨b8, 0, none⟩)), (9, .pointer (some ⟨b9, 0, none⟩)), (51, slv (some ⟨g2, 0, none⟩) rs.length cp2), (52, .int .i64 (rs.length : Nat)), (53, .int .i64 (k : Nat)), (11, slv (some ⟨gU, 0, none⟩) (rg rs k).length cU), (58, .int .i64 ((rg rs k).length : Nat)), (59, .int .i64 (j : Nat))])
      (fun j => [⟨b2, 24, [slv (some ⟨b, off, none⟩) rs.length cap], true, none⟩, ⟨g1, 27, rowCells mk1 ++ jk1, true, none⟩, mkB mk1', ⟨b8, 24, [slv (some ⟨g1, 0, none⟩) rs.length cp1], true, none⟩, ⟨g2, 27, rowCells mk2 ++ jk2, true, none⟩, grpB (La ++ (gU, ringO (gbl (rg rs k) j) jU) :: Lb), ⟨b9, 24, [slv (some ⟨g2, 0, none⟩) rs.length cp2], true, none⟩])
      (fun j => j ≤ (rg rs k).length) (fun j => (rg rs k).length - j) 0 (Nat.zero_le _) ⟨rfl, rfl, rfl, rfl, rfl, rfl, rfl, rfl, rfl, rfl, rfl, rfl, trivial⟩ [] rfl ?_
    intro j hj
    repeat (first | refine zA ?_ | refine zB ?_ | refine zC ?_ | refine zD ?_ | refine zE ?_ | refine zF ?_ | refine zG ?_ | refine zH ?_ | refine zI ?_ | refine zJ ?_ | refine zK ?_ | refine zL ?_ | refine zM rfl ?_ | refine zN ?_ | refine zO ?_ | refine zP ?_ | refine zQ ?_ | refine zR rfl ?_ | refine zS rfl ?_ | refine zT Tryz.mixed (by kernel_rfl) ?_)
    refine wl_pure Tryz.hT rfl rfl rfl ?_
    refine wl_nil ?_
    repeat (first | refine zA ?_ | refine zB ?_ | refine zC ?_ | refine zD ?_ | refine zE ?_ | refine zF ?_ | refine zG ?_ | refine zH ?_ | refine zI ?_ | refine zJ ?_ | refine zK ?_ | refine zL ?_ | refine zM rfl ?_ | refine zN ?_ | refine zO ?_ | refine zP ?_ | refine zQ ?_ | refine zR rfl ?_ | refine zS rfl ?_ | refine zT Tryz.mixed (by kernel_rfl) ?_)
    refine wc_cond rfl (fun h => ?_) (fun h => ?_)
    rotate_left
    · have e : j = (rg rs k).length := by have h' : decide ((j : Int) < ((rg rs k).length : Nat)) = false := h; rw [decide_eq_false_iff_not] at h'; omega
      subst e
      rw [gbl_all, ← hB']
      repeat (first | refine zA ?_ | refine zB ?_ | refine zC ?_ | refine zD ?_ | refine zE ?_ | refine zF ?_ | refine zG ?_ | refine zH ?_ | refine zI ?_ | refine zJ ?_ | refine zK ?_ | refine zL ?_ | refine zM rfl ?_ | refine zN ?_ | refine zO ?_ | refine zP ?_ | refine zQ ?_ | refine zR rfl ?_ | refine zS rfl ?_ | refine zT Tryz.mixed (by kernel_rfl) ?_)
      refine wl_pure Tryz.hT rfl rfl rfl ?_
      refine wl_pure Tryz.hT rfl rfl rfl ?_
      refine wl_nil ?_
      repeat (first | refine zA ?_ | refine zB ?_ | refine zC ?_ | refine zD ?_ | refine zE ?_ | refine zF ?_ | refine zG ?_ | refine zH ?_ | refine zI ?_ | refine zJ ?_ | refine zK ?_ | refine zL ?_ | refine zM rfl ?_ | refine zN ?_ | refine zO ?_ | refine zP ?_ | refine zQ ?_ | refine zR rfl ?_ | refine zS rfl ?_ | refine zT Tryz.mixed (by kernel_rfl) ?_)
      exact ne_loop (k + 1, mk') ⟨hk, hmk', hrow'⟩ (by show rs.length - (k + 1) < rs.length - k; omega) ⟨rfl, rfl, rfl, rfl, rfl, rfl, rfl, rfl, congrArg (fun z => some (Value.int .i64 z)) (wrap_id (x := (k : Int) + 1) (by omega) (by omega)), trivial⟩ [] rfl
    have hj : j < (rg rs k).length := by have h' : decide ((j : Int) < ((rg rs k).length : Nat)) = true := h; rw [decide_eq_true_iff] at h'; omega
    clear h
    repeat (first | refine zA ?_ | refine zB ?_ | refine zC ?_ | refine zD ?_ | refine zE ?_ | refine zF ?_ | refine zG ?_ | refine zH ?_ | refine zI ?_ | refine zJ ?_ | refine zK ?_ | refine zL ?_ | refine zM rfl ?_ | refine zN ?_ | refine zO ?_ | refine zP ?_ | refine zQ ?_ | refine zR rfl ?_ | refine zS rfl ?_ | refine zT Tryz.mixed (by kernel_rfl) ?_)
    refine wl_pure Tryz.hT rfl rfl rfl ?_
    refine wl_pure Tryz.hT rfl rfl rfl ?_
    refine wl_nil ?_
    repeat (first | refine zA ?_ | refine zB ?_ | refine zC ?_ | refine zD ?_ | refine zE ?_ | refine zF ?_ | refine zG ?_ | refine zH ?_ | refine zI ?_ | refine zJ ?_ | refine zK ?_ | refine zL ?_ | refine zM rfl ?_ | refine zN ?_ | refine zO ?_ | refine zP ?_ | refine zQ ?_ | refine zR rfl ?_ | refine zS rfl ?_ | refine zT Tryz.mixed (by kernel_rfl) ?_)
    refine wl_pure Tryz.hT rfl rfl rfl ?_
    refine wl_pure Tryz.hT rfl rfl rfl ?_
    refine wl_pure Tryz.hT rfl rfl rfl ?_
    refine wl_pure Tryz.hT rfl rfl rfl ?_
    refine wl_pure Tryz.hT rfl rfl rfl ?_
    refine wl_pure Tryz.hT rfl rfl rfl ?_
    (first | refine wl_indexAddr Tryz.hT rfl rfl rfl rfl rfl rfl rfl (by omega) (by omega) ?_ | refine wq_indexAddr Tryz.hT rfl rfl rfl rfl rfl rfl rfl (by omega) (by omega) ?_)
    refine wl_pure Tryz.hT rfl rfl rfl ?_
    have e0 : (gbl (rg rs k) j).length = (rg rs k).length := gbl_len _ (by omega)
    have e1 : ∀ s, ((gbl (rg rs k) j).set j s).length = (rg rs k).length := fun s => by rw [List.length_set]; exact e0
    have f0 : sd (gbl (rg rs k) j) j = sd (rg rs k) j := sd_gbl hj
    have f1 : ∀ s, sd ((gbl (rg rs k) j).set j s) j = s := fun s => by rw [sd_setL (by rw [e0]; exact hj), if_pos rfl]
    obtain ⟨s0, hs0⟩ : ∃ s0, s0 = sd (rg rs k) j := ⟨_, rfl⟩
    rw [← hs0] at f0
    have w1 : splice (cellsOf (gbl (rg rs k) j) ++ jU) (0 + j * 7 + 4) [.bool true] = cellsOf ((gbl (rg rs k) j).set j { s0 with gable := true }) ++ jU := by
      rw [Nat.zero_add]; exact set_cells (by decide) _ j (by rw [e0]; exact hj) (by rw [f0]; rfl)
    have w2 : splice (cellsOf ((gbl (rg rs k) j).set j { s0 with gable := true }) ++ jU) (0 + j * 7 + 2) [.int .i64 0] = cellsOf ((gbl (rg rs k) j).set j { s0 with gable := true, rise := 0 }) ++ jU := by
      rw [Nat.zero_add, set_cells (s' := { s0 with gable := true, rise := 0 }) (by decide) _ j (by rw [e1]; exact hj) (by rw [f1]; rfl), set_twice]
    have w3 : splice (cellsOf ((gbl (rg rs k) j).set j { s0 with gable := true, rise := 0 }) ++ jU) (0 + j * 7 + 3) [.int .i64 0] = cellsOf (gbl (rg rs k) (j + 1)) ++ jU := by
      rw [Nat.zero_add, set_cells (s' := gab s0) (by decide) _ j (by rw [e1]; exact hj) (by rw [f1]; rfl), set_twice, hs0, gbl_succ hj]
    have fit : ∀ (L : List Sd) (f : Nat), L.length = (rg rs k).length → f < 7 → 0 + j * 7 + f + 1 ≤ (cellsOf L ++ jU).length := fun L f hL hf => by
      rw [List.length_append, cellsOf_length, hL]; omega
    refine wl_storeG 5 (cellsOf ((gbl (rg rs k) j).set j { s0 with gable := true }) ++ jU) (grpB (La ++ (gU, ringO ((gbl (rg rs k) j).set j { s0 with gable := true }) jU) :: Lb)) Tryz.hT rfl rfl rfl rfl rfl rfl rfl rfl rfl rfl rfl (fit _ 4 e0 (by decide)) w1 ?_
    (first | refine wl_indexAddr Tryz.hT rfl rfl rfl rfl rfl rfl rfl (by omega) (by omega) ?_ | refine wq_indexAddr Tryz.hT rfl rfl rfl rfl rfl rfl rfl (by omega) (by omega) ?_)
    refine wl_pure Tryz.hT rfl rfl rfl ?_
    refine wl_storeG 5 (cellsOf ((gbl (rg rs k) j).set j { s0 with gable := true, rise := 0 }) ++ jU) (grpB (La ++ (gU, ringO ((gbl (rg rs k) j).set j { s0 with gable := true, rise := 0 }) jU) :: Lb)) Tryz.hT rfl rfl rfl rfl rfl rfl rfl rfl rfl rfl rfl (fit _ 2 (e1 _) (by decide)) w2 ?_
    (first | refine wl_indexAddr Tryz.hT rfl rfl rfl rfl rfl rfl rfl (by omega) (by omega) ?_ | refine wq_indexAddr Tryz.hT rfl rfl rfl rfl rfl rfl rfl (by omega) (by omega) ?_)
    refine wl_pure Tryz.hT rfl rfl rfl ?_
    refine wl_storeG 5 (cellsOf (gbl (rg rs k) (j + 1)) ++ jU) (grpB (La ++ (gU, ringO (gbl (rg rs k) (j + 1)) jU) :: Lb)) Tryz.hT rfl rfl rfl rfl rfl rfl rfl rfl rfl rfl rfl (fit _ 3 (e1 _) (by decide)) w3 ?_
    repeat (first | refine zA ?_ | refine zB ?_ | refine zC ?_ | refine zD ?_ | refine zE ?_ | refine zF ?_ | refine zG ?_ | refine zH ?_ | refine zI ?_ | refine zJ ?_ | refine zK ?_ | refine zL ?_ | refine zM rfl ?_ | refine zN ?_ | refine zO ?_ | refine zP ?_ | refine zQ ?_ | refine zR rfl ?_ | refine zS rfl ?_ | refine zT Tryz.mixed (by kernel_rfl) ?_)
    refine wl_pure Tryz.hT rfl rfl rfl ?_
    refine wl_pure Tryz.hT rfl rfl rfl ?_
    refine wl_nil ?_
    repeat (first | refine zA ?_ | refine zB ?_ | refine zC ?_ | refine zD ?_ | refine zE ?_ | refine zF ?_ | refine zG ?_ | refine zH ?_ | refine zI ?_ | refine zJ ?_ | refine zK ?_ | refine zL ?_ | refine zM rfl ?_ | refine zN ?_ | refine zO ?_ | refine zP ?_ | refine zQ ?_ | refine zR rfl ?_ | refine zS rfl ?_ | refine zT Tryz.mixed (by kernel_rfl) ?_)
    exact ne_loop (j + 1) hj (by omega) ⟨rfl, rfl, rfl, rfl, rfl, rfl, rfl, rfl, rfl, rfl, rfl, congrArg (fun z => some (Value.int .i64 z)) (wrap_id (x := (j : Int) + 1) (by omega) (by omega)), trivial⟩ [] rfl
  have ek : k = rs.length := by have h' : decide ((k : Int) < (rs.length : Nat)) = false := h; rw [decide_eq_false_iff_not] at h'; omega
  clear h
  subst ek
  rw [gbs_all] at hmk
  repeat (first | refine zA ?_ | refine zB ?_ | refine zC ?_ | refine zD ?_ | refine zE ?_ | refine zF ?_ | refine zG ?_ | refine zH ?_ | refine zI ?_ | refine zJ ?_ | refine zK ?_ | refine zL ?_ | refine zM rfl ?_ | refine zN ?_ | refine zO ?_ | refine zP ?_ | refine zQ ?_ | refine zR rfl ?_ | refine zS rfl ?_ | refine zT Tryz.mixed (by kernel_rfl) ?_)
  refine wl_pure Tryz.hT rfl rfl rfl ?_
  refine wl_call (X := Vec × Made) rfl rfl rfl rfl rfl rfl (by kernel_rfl) (fun W1 hp => hcop hp rfl) ?_
  rintro ⟨V3, mk3⟩ ⟨hmk3, hV3⟩
  obtain ⟨p3, cp3, jk3⟩ := V3
  cases p3 with
  | none => have := hV3.nil rfl; omega
  | some g3 =>
  refine wl_upd 77 (planV (some ⟨g3, 0, none⟩) rs.length cp3) rfl rfl ?_
  (refine wl_allocZ Tryz.hZ rfl rfl rfl rfl ?_; intro)
  (first | refine wl_storeBx 9 Tryz.hT rfl rfl rfl rfl rfl rfl rfl rfl rfl rfl rfl ?_)
  refine wl_nil ?_
  rename_i b13
  repeat (first | refine zC ?_ | refine zD ?_ | refine zE ?_ | refine zF ?_ | refine zG ?_ | refine zH ?_ | refine zI ?_ | refine zJ ?_ | refine zK ?_ | refine zL ?_ | refine zM rfl ?_ | refine zN ?_ | refine zO ?_ | refine zP ?_ | refine zQ ?_ | refine zR rfl ?_ | refine zS rfl ?_)
  repeat refine wc_seq ?_
  obtain ⟨gU3, cU3, jU3, La3, Lb3, hat3⟩ := made_at hmk3 hne hr
  have hmk3 : MadeOK mk3 rs := hmk3
  have hV3 : (⟨some g3, cp3, jk3⟩ : Vec).OK 1 rs.length (rowCells mk3) := hV3
  have hlm3 : (rowCells mk3).length = rs.length := by have := hV3.len; omega
  have hrl3 : r < (rowCells mk3).length := by omega
  refine wc_lateY (X := { x : Nat × Nat × List Value // (⟨some x.1, x.2.1, x.2.2⟩ : Vec).OK 7 ((rg rs r).length + 1) (cellsOf (insL (rg rs r) i (sd (rg rs r) i))) }) [true, true, true, true, true, true, true, true, true, true, true, true, true, true, true, true, true, false, false, false, false] (fun _ => [(2, .pointer (some ⟨b2, 0, none⟩)), (5, .func (.func 29) #[] #[.pointer (some ⟨b2, 0, none⟩)]), (6, .int .i64 (r : Nat)), (7, .int .i64 (i : Nat)), (8, .pointer (some ⟨b8, 0, none⟩)), (9, .pointer (some ⟨b9, 0, none⟩)), (13, .pointer (some ⟨b13, 0, none⟩))])
    (fun x => [⟨b2, 24, [slv (some ⟨b, off, none⟩) rs.length cap], true, none⟩, ⟨g1, 27, rowCells mk1 ++ jk1, true, none⟩, mkB mk1', ⟨b8, 24, [slv (some ⟨g1, 0, none⟩) rs.length cp1], true, none⟩, ⟨g2, 27, rowCells mk2 ++ jk2, true, none⟩, mkB mk, ⟨b9, 24, [slv (some ⟨g2, 0, none⟩) rs.length cp2], true, none⟩,
      ⟨g3, 27, (rowCells mk3).set r (slv (some ⟨x.1.1, 0, none⟩) ((rg rs r).length + 1) x.1.2.1) ++ jk3, true, none⟩, grpB (La3 ++ (x.1.1, ringO (insL (rg rs r) i (sd (rg rs r) i)) x.1.2.2) :: Lb3), ⟨b13, 24, [slv (some ⟨g3, 0, none⟩) rs.length cp3], true, none⟩])
    4 [⟨b2, 24, [slv (some ⟨b, off, none⟩) rs.length cap], true, none⟩, ⟨g1, 27, rowCells mk1 ++ jk1, true, none⟩, mkB mk1', ⟨b8, 24, [slv (some ⟨g1, 0, none⟩) rs.length cp1], true, none⟩, ⟨g2, 27, rowCells mk2 ++ jk2, true, none⟩, mkB mk, ⟨b9, 24, [slv (some ⟨g2, 0, none⟩) rs.length cp2], true, none⟩,
      ⟨g3, 27, rowCells mk3 ++ jk3, true, none⟩, gone, ⟨b13, 24, [slv (some ⟨g3, 0, none⟩) rs.length cp3], true, none⟩] Tryz.mixed (by kernel_rfl) ?_ ?_
  · refine wq_pure Tryz.hT rfl rfl rfl ?_
    (first | refine wq_loadBx 9 Tryz.hT rfl rfl rfl rfl rfl rfl rfl rfl ?_)
    refine wq_pure Tryz.hT rfl rfl rfl ?_
    refine wq_pure Tryz.hT rfl rfl rfl ?_
    (first | refine wq_loadBx 9 Tryz.hT rfl rfl rfl rfl rfl rfl rfl rfl ?_)
    refine wq_pure Tryz.hT rfl rfl rfl ?_
    (first | refine wl_indexAddr Tryz.hT rfl rfl rfl rfl rfl rfl rfl (by omega) (by omega) ?_ | refine wq_indexAddr Tryz.hT rfl rfl rfl rfl rfl rfl rfl (by omega) (by omega) ?_)
    (first | refine wl_load rfl rfl rfl rfl (fun W hp => RowAt.load 0 Tryz.hT rfl ((fun W1 hp => row_val hp 7 rfl hat3.val) W hp) rfl) ?_ | refine wl_load rfl rfl rfl rfl (fun W hp => RowAt.load 1 Tryz.hT rfl ((fun W1 hp => row_val hp 7 rfl hat3.val) W hp) rfl) ?_ | refine wl_load rfl rfl rfl rfl (fun W hp => RowAt.load 2 Tryz.hT rfl ((fun W1 hp => row_val hp 7 rfl hat3.val) W hp) rfl) ?_ | refine wl_load rfl rfl rfl rfl (fun W hp => RowAt.load 3 Tryz.hT rfl ((fun W1 hp => row_val hp 7 rfl hat3.val) W hp) rfl) ?_ | refine wl_load rfl rfl rfl rfl (fun W hp => RowAt.load 4 Tryz.hT rfl ((fun W1 hp => row_val hp 7 rfl hat3.val) W hp) rfl) ?_ | refine wl_load rfl rfl rfl rfl (fun W hp => RowAt.load 5 Tryz.hT rfl ((fun W1 hp => row_val hp 7 rfl hat3.val) W hp) rfl) ?_ | refine wl_load rfl rfl rfl rfl (fun W hp => RowAt.load 6 Tryz.hT rfl ((fun W1 hp => row_val hp 7 rfl hat3.val) W hp) rfl) ?_ | refine wl_load rfl rfl rfl rfl (fun W hp => RowAt.load 7 Tryz.hT rfl ((fun W1 hp => row_val hp 7 rfl hat3.val) W hp) rfl) ?_ | refine wq_load rfl rfl rfl rfl (fun W hp => RowAt.load 0 Tryz.hT rfl ((fun W1 hp => row_val hp 7 rfl hat3.val) W hp) rfl) ?_ | refine wq_load rfl rfl rfl rfl (fun W hp => RowAt.load 1 Tryz.hT rfl ((fun W1 hp => row_val hp 7 rfl hat3.val) W hp) rfl) ?_ | refine wq_load rfl rfl rfl rfl (fun W hp => RowAt.load 2 Tryz.hT rfl ((fun W1 hp => row_val hp 7 rfl hat3.val) W hp) rfl) ?_ | refine wq_load rfl rfl rfl rfl (fun W hp => RowAt.load 3 Tryz.hT rfl ((fun W1 hp => row_val hp 7 rfl hat3.val) W hp) rfl) ?_ | refine wq_load rfl rfl rfl rfl (fun W hp => RowAt.load 4 Tryz.hT rfl ((fun W1 hp => row_val hp 7 rfl hat3.val) W hp) rfl) ?_ | refine wq_load rfl rfl rfl rfl (fun W hp => RowAt.load 5 Tryz.hT rfl ((fun W1 hp => row_val hp 7 rfl hat3.val) W hp) rfl) ?_ | refine wq_load rfl rfl rfl rfl (fun W hp => RowAt.load 6 Tryz.hT rfl ((fun W1 hp => row_val hp 7 rfl hat3.val) W hp) rfl) ?_ | refine wq_load rfl rfl rfl rfl (fun W hp => RowAt.load 7 Tryz.hT rfl ((fun W1 hp => row_val hp 7 rfl hat3.val) W hp) rfl) ?_)
    refine wq_pure Tryz.hT rfl rfl rfl ?_
    refine wq_pure Tryz.hT rfl rfl rfl ?_
    (first | refine wq_loadBx 0 Tryz.hT rfl rfl rfl rfl rfl rfl rfl rfl ?_)
    refine wq_pure Tryz.hT rfl rfl rfl ?_
    (first | refine wl_indexAddr Tryz.hT rfl rfl rfl rfl rfl rfl rfl (by omega) (by omega) ?_ | refine wq_indexAddr Tryz.hT rfl rfl rfl rfl rfl rfl rfl (by omega) (by omega) ?_)
    (first | refine wl_load rfl rfl rfl rfl (fun W hp => RowAt.load 0 Tryz.hT rfl ((fun W1 hp => hq1.hp hp) W hp) rfl) ?_ | refine wl_load rfl rfl rfl rfl (fun W hp => RowAt.load 1 Tryz.hT rfl ((fun W1 hp => hq1.hp hp) W hp) rfl) ?_ | refine wl_load rfl rfl rfl rfl (fun W hp => RowAt.load 2 Tryz.hT rfl ((fun W1 hp => hq1.hp hp) W hp) rfl) ?_ | refine wl_load rfl rfl rfl rfl (fun W hp => RowAt.load 3 Tryz.hT rfl ((fun W1 hp => hq1.hp hp) W hp) rfl) ?_ | refine wl_load rfl rfl rfl rfl (fun W hp => RowAt.load 4 Tryz.hT rfl ((fun W1 hp => hq1.hp hp) W hp) rfl) ?_ | refine wl_load rfl rfl rfl rfl (fun W hp => RowAt.load 5 Tryz.hT rfl ((fun W1 hp => hq1.hp hp) W hp) rfl) ?_ | refine wl_load rfl rfl rfl rfl (fun W hp => RowAt.load 6 Tryz.hT rfl ((fun W1 hp => hq1.hp hp) W hp) rfl) ?_ | refine wl_load rfl rfl rfl rfl (fun W hp => RowAt.load 7 Tryz.hT rfl ((fun W1 hp => hq1.hp hp) W hp) rfl) ?_ | refine wq_load rfl rfl rfl rfl (fun W hp => RowAt.load 0 Tryz.hT rfl ((fun W1 hp => hq1.hp hp) W hp) rfl) ?_ | refine wq_load rfl rfl rfl rfl (fun W hp => RowAt.load 1 Tryz.hT rfl ((fun W1 hp => hq1.hp hp) W hp) rfl) ?_ | refine wq_load rfl rfl rfl rfl (fun W hp => RowAt.load 2 Tryz.hT rfl ((fun W1 hp => hq1.hp hp) W hp) rfl) ?_ | refine wq_load rfl rfl rfl rfl (fun W hp => RowAt.load 3 Tryz.hT rfl ((fun W1 hp => hq1.hp hp) W hp) rfl) ?_ | refine wq_load rfl rfl rfl rfl (fun W hp => RowAt.load 4 Tryz.hT rfl ((fun W1 hp => hq1.hp hp) W hp) rfl) ?_ | refine wq_load rfl rfl rfl rfl (fun W hp => RowAt.load 5 Tryz.hT rfl ((fun W1 hp => hq1.hp hp) W hp) rfl) ?_ | refine wq_load rfl rfl rfl rfl (fun W hp => RowAt.load 6 Tryz.hT rfl ((fun W1 hp => hq1.hp hp) W hp) rfl) ?_ | refine wq_load rfl rfl rfl rfl (fun W hp => RowAt.load 7 Tryz.hT rfl ((fun W1 hp => hq1.hp hp) W hp) rfl) ?_)
    refine wq_pure Tryz.hT rfl rfl rfl ?_
    (first | refine wl_indexAddr Tryz.hT rfl rfl rfl rfl rfl rfl rfl (by omega) (by omega) ?_ | refine wq_indexAddr Tryz.hT rfl rfl rfl rfl rfl rfl rfl (by omega) (by omega) ?_)
    (first | refine wl_load rfl rfl rfl rfl (fun W hp => RowAt.load 0 Tryz.hT rfl ((fun W1 hp => (hrq i hi).hp hp) W hp) rfl) ?_ | refine wl_load rfl rfl rfl rfl (fun W hp => RowAt.load 1 Tryz.hT rfl ((fun W1 hp => (hrq i hi).hp hp) W hp) rfl) ?_ | refine wl_load rfl rfl rfl rfl (fun W hp => RowAt.load 2 Tryz.hT rfl ((fun W1 hp => (hrq i hi).hp hp) W hp) rfl) ?_ | refine wl_load rfl rfl rfl rfl (fun W hp => RowAt.load 3 Tryz.hT rfl ((fun W1 hp => (hrq i hi).hp hp) W hp) rfl) ?_ | refine wl_load rfl rfl rfl rfl (fun W hp => RowAt.load 4 Tryz.hT rfl ((fun W1 hp => (hrq i hi).hp hp) W hp) rfl) ?_ | refine wl_load rfl rfl rfl rfl (fun W hp => RowAt.load 5 Tryz.hT rfl ((fun W1 hp => (hrq i hi).hp hp) W hp) rfl) ?_ | refine wl_load rfl rfl rfl rfl (fun W hp => RowAt.load 6 Tryz.hT rfl ((fun W1 hp => (hrq i hi).hp hp) W hp) rfl) ?_ | refine wl_load rfl rfl rfl rfl (fun W hp => RowAt.load 7 Tryz.hT rfl ((fun W1 hp => (hrq i hi).hp hp) W hp) rfl) ?_ | refine wq_load rfl rfl rfl rfl (fun W hp => RowAt.load 0 Tryz.hT rfl ((fun W1 hp => (hrq i hi).hp hp) W hp) rfl) ?_ | refine wq_load rfl rfl rfl rfl (fun W hp => RowAt.load 1 Tryz.hT rfl ((fun W1 hp => (hrq i hi).hp hp) W hp) rfl) ?_ | refine wq_load rfl rfl rfl rfl (fun W hp => RowAt.load 2 Tryz.hT rfl ((fun W1 hp => (hrq i hi).hp hp) W hp) rfl) ?_ | refine wq_load rfl rfl rfl rfl (fun W hp => RowAt.load 3 Tryz.hT rfl ((fun W1 hp => (hrq i hi).hp hp) W hp) rfl) ?_ | refine wq_load rfl rfl rfl rfl (fun W hp => RowAt.load 4 Tryz.hT rfl ((fun W1 hp => (hrq i hi).hp hp) W hp) rfl) ?_ | refine wq_load rfl rfl rfl rfl (fun W hp => RowAt.load 5 Tryz.hT rfl ((fun W1 hp => (hrq i hi).hp hp) W hp) rfl) ?_ | refine wq_load rfl rfl rfl rfl (fun W hp => RowAt.load 6 Tryz.hT rfl ((fun W1 hp => (hrq i hi).hp hp) W hp) rfl) ?_ | refine wq_load rfl rfl rfl rfl (fun W hp => RowAt.load 7 Tryz.hT rfl ((fun W1 hp => (hrq i hi).hp hp) W hp) rfl) ?_)
    refine wq_wt ?_
    first | refine wt_step rfl rfl (by ((repeat (first | refine Weak.same ?_ | refine Weak.off rfl ?_)); exact trivial)) ?_ | refine wt_stepF rfl rfl (by kernel_rfl) ?_
    refine RS.cons ?_ (RS.nil)
    (refine wl_buildRowZ Tryz.hZ Tryz.hT rfl rfl rfl rfl rfl rfl rfl rfl rfl rfl rfl ?_; intro)
    refine wl_nil ?_
    refine ne_wt ?_
    first | refine wt_step rfl rfl (by ((repeat (first | refine Weak.same ?_ | refine Weak.off rfl ?_)); exact trivial)) ?_ | refine wt_stepF rfl rfl (by kernel_rfl) ?_
    refine RS.cons ?_ (RS.nil)
    refine wl_callN (X := Nat × Nat × List Value) (val := fun x => slv (some ⟨x.1, 0, none⟩) ((rg rs r).length + 1) x.2.1) (Φ := fun x => (⟨some x.1, x.2.1, x.2.2⟩ : Vec).OK 7 ((rg rs r).length + 1) (cellsOf (insL (rg rs r) i (sd (rg rs r) i)))) 8 (B := mkB mk3) (L1 := La3) (L2 := Lb3) (b := gU3) (ob := ringO (rg rs r) jU3) (fun x => grpB (La3 ++ (x.1, ringO (insL (rg rs r) i (sd (rg rs r) i)) x.2.2) :: Lb3)) (g' := fun x => x.1) (o' := fun x => ringO (insL (rg rs r) i (sd (rg rs r) i)) x.2.2) rfl rfl rfl rfl rfl rfl (by kernel_rfl) rfl (congrArg Bx.blk hat3.blk) (fun _ _ => rfl) (fun W1 hp => insert_gives W1 gU3 cU3 _ 1 i jU3 (rg rs r) (sd (rg rs r) i) hi (by omega) hat3.ok (hp.own.cell 8 (mkB mk3) rfl (gU3, ringO (rg rs r) jU3) (by rw [congrArg Bx.blk hat3.blk]; exact List.mem_append_right _ (List.mem_cons_self ..))).1 (hp.at_ 10 _ rfl rfl).1 (hp.own.apart 10 8 _ (mkB mk3) rfl rfl (by decide) (_, _) (List.mem_cons_self ..) (gU3, ringO (rg rs r) jU3) (by rw [congrArg Bx.blk hat3.blk]; exact List.mem_append_right _ (List.mem_cons_self ..)))) ?_; rintro ⟨gI, cI, jI⟩ hI
    refine wl_nil ?_
    refine ne_wt ?_
    first | refine wt_step rfl rfl (by ((repeat (first | refine Weak.same ?_ | refine Weak.off rfl ?_)); exact trivial)) ?_ | refine wt_stepF rfl rfl (by kernel_rfl) ?_
    refine RS.cons ?_ (RS.nil)
    (first | refine wl_indexAddr Tryz.hT rfl rfl rfl rfl rfl rfl rfl (by omega) (by omega) ?_ | refine wq_indexAddr Tryz.hT rfl rfl rfl rfl rfl rfl rfl (by omega) (by omega) ?_)
    refine wl_nil ?_
    refine ne_wt ?_
    first | refine wt_step rfl rfl (by ((repeat (first | refine Weak.same ?_ | refine Weak.off rfl ?_)); exact trivial)) ?_ | refine wt_stepF rfl rfl (by kernel_rfl) ?_
    refine RS.cons ?_ (RS.nil)
    refine wl_storeTo 7 ((rowCells mk3).set r (slv (some ⟨gI, 0, none⟩) ((rg rs r).length + 1) cI) ++ jk3) Tryz.hT rfl rfl rfl rfl rfl rfl rfl rfl rfl rfl (by show 0 + r * 1 + 1 ≤ (rowCells mk3 ++ jk3).length; rw [List.length_append]; omega) (splice_one (rowCells mk3) r _ hrl3 jk3) ?_
    refine wl_nil ?_
    refine ne_wt ?_
    first | refine wt_done rfl (by ((repeat (first | refine Weak.same ?_ | refine Weak.off rfl ?_)); exact trivial)) ?_ | refine wt_doneF rfl (by kernel_rfl) ?_
    exact ne_late ⟨(gI, cI, jI), hI⟩ ⟨rfl, rfl, rfl, rfl, rfl, rfl, rfl, trivial⟩ [0, 1, 2, 3, 4, 5, 6, 7, 8, 9] (by decide) rfl
  rintro ⟨⟨gI, cI, jI⟩, hI⟩
  have hli : (insL (rg rs r) i (sd (rg rs r) i)).length = (rg rs r).length + 1 := ins_len hi
  obtain ⟨mk3', hmk3', hB3', hrow3'⟩ := hat3.set gI cI jI (insL (rg rs r) i (sd (rg rs r) i)) (by rw [hli]; exact hI)
  rw [hli] at hrow3'
  have hV3' : (⟨some g3, cp3, jk3⟩ : Vec).OK 1 rs.length (rowCells mk3') := by
    rw [hrow3']
    refine ⟨by rw [List.length_set]; exact hV3.len, hV3.nil, fun h => ?_⟩
    rw [List.length_set]; exact hV3.cap h
  have ht1 := tot_set hr (rg rs r).reverse
  rw [List.length_reverse] at ht1
  have ht3 := tot_set hr (insL (rg rs r) i (sd (rg rs r) i))
  rw [hli] at ht3
  have hT1 : tot (rs.set r (rg rs r).reverse) < 1099511627776 := by omega
  have hT3 : tot (rs.set r (insL (rg rs r) i (sd (rg rs r) i))) < 1099511627776 := by omega
  repeat (first | refine zA ?_ | refine zB ?_ | refine zC ?_ | refine zD ?_ | refine zE ?_ | refine zF ?_ | refine zG ?_ | refine zH ?_ | refine zI ?_ | refine zJ ?_ | refine zK ?_ | refine zL ?_ | refine zM rfl ?_ | refine zN ?_ | refine zO ?_ | refine zP ?_ | refine zQ ?_ | refine zR rfl ?_ | refine zS rfl ?_ | refine zT Tryz.mixed (by kernel_rfl) ?_)
  (first | refine wl_loadBx 3 Tryz.hT rfl rfl rfl rfl rfl rfl rfl rfl ?_)
  refine wl_call1 rfl rfl rfl rfl rfl rfl (by kernel_rfl) (fun W1 hp => chk14 W1 (List.length_set ..) hsm hT1 (chk_rev hc hr) (rings_of hmk1' (List.length_set ..) (by rw [hrow1']; exact hV1) hp 1 2 (by rw [hrow1']; rfl) rfl)) ?_
  refine wl_pure Tryz.hT rfl rfl rfl ?_
  refine wl_pure Tryz.hT rfl rfl rfl ?_
  (first | refine wl_loadBx 6 Tryz.hT rfl rfl rfl rfl rfl rfl rfl rfl ?_)
  refine wl_call1 rfl rfl rfl rfl rfl rfl (by kernel_rfl) (fun W1 hp => chk14 W1 (List.length_map ..) hsm (by rw [tot_map]; omega) (chk_gab hc) (rings_of hmk (List.length_map ..) (by rw [hrw]; exact hV2) hp 4 5 (by rw [hrw]; rfl) rfl)) ?_
  refine wl_pure Tryz.hT rfl rfl rfl ?_
  refine wl_pure Tryz.hT rfl rfl rfl ?_
  refine wl_pure Tryz.hT rfl rfl rfl ?_
  (first | refine wl_loadBx 9 Tryz.hT rfl rfl rfl rfl rfl rfl rfl rfl ?_)
  refine wl_call1 rfl rfl rfl rfl rfl rfl (by kernel_rfl) (fun W1 hp => chk14 W1 (List.length_set ..) hsm hT3 (chk_ins hc h12 hr hi) (rings_of hmk3' (List.length_set ..) hV3' hp 7 8 (by rw [hrow3']; rfl) (by rw [hB3']; rfl))) ?_
  refine wl_pure Tryz.hT rfl rfl rfl ?_
  refine wl_pure Tryz.hT rfl rfl rfl ?_
  refine wl_skip rfl rfl ?_
  refine wl_skip rfl rfl ?_
  refine wl_skip rfl rfl ?_
  (first | refine wl_pure Tryz.hT rfl rfl rfl ?_ | refine wl_skip rfl rfl ?_)
  refine wl_pure Tryz.hT rfl rfl rfl ?_
  refine wl_nil ?_
  repeat (first | refine zA ?_ | refine zB ?_ | refine zC ?_ | refine zD ?_ | refine zE ?_ | refine zF ?_ | refine zG ?_ | refine zH ?_ | refine zI ?_ | refine zJ ?_ | refine zK ?_ | refine zL ?_ | refine zM rfl ?_ | refine zN ?_ | refine zO ?_ | refine zP ?_ | refine zQ ?_ | refine zR rfl ?_ | refine zS rfl ?_ | refine zT Tryz.mixed (by kernel_rfl) ?_)
  refine wl_pure Tryz.hT rfl rfl rfl ?_
  refine wl_nil ?_
  repeat (first | refine zA ?_ | refine zB ?_ | refine zC ?_ | refine zD ?_ | refine zE ?_ | refine zF ?_ | refine zG ?_ | refine zH ?_ | refine zI ?_ | refine zJ ?_ | refine zK ?_ | refine zL ?_ | refine zM rfl ?_ | refine zN ?_ | refine zO ?_ | refine zP ?_ | refine zQ ?_ | refine zR rfl ?_ | refine zS rfl ?_ | refine zT Tryz.mixed (by kernel_rfl) ?_)
  refine wl_pure Tryz.hT rfl rfl rfl ?_
  (first | refine wl_loadBx 0 Tryz.hT rfl rfl rfl rfl rfl rfl rfl rfl ?_)
  refine wl_pure Tryz.hT rfl rfl rfl ?_
  refine wl_slice_h r Tryz.hT rfl rfl rfl rfl rfl rfl rfl rfl (by omega) ?_
  refine wl_pure Tryz.hT rfl rfl rfl ?_
  refine wl_pure Tryz.hT rfl rfl rfl ?_
  refine wl_nil ?_
  repeat (first | refine zA ?_ | refine zB ?_ | refine zC ?_ | refine zD ?_ | refine zE ?_ | refine zF ?_ | refine zG ?_ | refine zH ?_ | refine zI ?_ | refine zJ ?_ | refine zK ?_ | refine zL ?_ | refine zM rfl ?_ | refine zN ?_ | refine zO ?_ | refine zP ?_ | refine zQ ?_ | refine zR rfl ?_ | refine zS rfl ?_ | refine zT Tryz.mixed (by kernel_rfl) ?_)
  refine wc_loop (X := Nat) (fun k => [(2, .pointer (some ⟨b2, 0, none⟩)), (5, .func (.func 29) #[] #[.pointer (some ⟨b2, 0, none⟩)]), (6, .int .i64 (r : Nat)), (7, .int .i64 (i : Nat)), (14, .int .i64 (tot (rs.take k) : Nat)), (119, slv (some ⟨b, off, none⟩) r cap), (120, .int .i64 (r : Nat)), (121, .int .i64 (k : Nat))])
    (fun _ => [⟨b2, 24, [slv (some ⟨b, off, none⟩) rs.length cap], true, none⟩])
    (fun k => k ≤ r) (fun k => r - k) 0 (Nat.zero_le _) ⟨rfl, rfl, rfl, rfl, rfl, rfl, rfl, rfl, trivial⟩ _ rfl ?_
  intro k hk
  repeat (first | refine zA ?_ | refine zB ?_ | refine zC ?_ | refine zD ?_ | refine zE ?_ | refine zF ?_ | refine zG ?_ | refine zH ?_ | refine zI ?_ | refine zJ ?_ | refine zK ?_ | refine zL ?_ | refine zM rfl ?_ | refine zN ?_ | refine zO ?_ | refine zP ?_ | refine zQ ?_ | refine zR rfl ?_ | refine zS rfl ?_ | refine zT Tryz.mixed (by kernel_rfl) ?_)
  refine wl_pure Tryz.hT rfl rfl rfl ?_
  refine wl_nil ?_
  repeat (first | refine zA ?_ | refine zB ?_ | refine zC ?_ | refine zD ?_ | refine zE ?_ | refine zF ?_ | refine zG ?_ | refine zH ?_ | refine zI ?_ | refine zJ ?_ | refine zK ?_ | refine zL ?_ | refine zM rfl ?_ | refine zN ?_ | refine zO ?_ | refine zP ?_ | refine zQ ?_ | refine zR rfl ?_ | refine zS rfl ?_ | refine zT Tryz.mixed (by kernel_rfl) ?_)
  refine wc_cond rfl (fun h => ?_) (fun h => ?_)
  · have hk : k < r := by have h' : decide ((k : Int) < (r : Nat)) = true := h; rw [decide_eq_true_iff] at h'; omega
    clear h
    obtain ⟨qk, ck, hk1, hk2⟩ := hrow k (by omega)
    have t1 := tot_take_succ (rs := rs) (k := k) (by omega)
    have t2 := tot_take_le rs (k + 1)
    repeat (first | refine zA ?_ | refine zB ?_ | refine zC ?_ | refine zD ?_ | refine zE ?_ | refine zF ?_ | refine zG ?_ | refine zH ?_ | refine zI ?_ | refine zJ ?_ | refine zK ?_ | refine zL ?_ | refine zM rfl ?_ | refine zN ?_ | refine zO ?_ | refine zP ?_ | refine zQ ?_ | refine zR rfl ?_ | refine zS rfl ?_ | refine zT Tryz.mixed (by kernel_rfl) ?_)
    (first | refine wl_indexAddr Tryz.hT rfl rfl rfl rfl rfl rfl rfl (by omega) (by omega) ?_ | refine wq_indexAddr Tryz.hT rfl rfl rfl rfl rfl rfl rfl (by omega) (by omega) ?_)
    (first | refine wl_load rfl rfl rfl rfl (fun W hp => RowAt.load 0 Tryz.hT rfl ((fun W1 hp => hk1.hp hp) W hp) rfl) ?_ | refine wl_load rfl rfl rfl rfl (fun W hp => RowAt.load 1 Tryz.hT rfl ((fun W1 hp => hk1.hp hp) W hp) rfl) ?_ | refine wl_load rfl rfl rfl rfl (fun W hp => RowAt.load 2 Tryz.hT rfl ((fun W1 hp => hk1.hp hp) W hp) rfl) ?_ | refine wl_load rfl rfl rfl rfl (fun W hp => RowAt.load 3 Tryz.hT rfl ((fun W1 hp => hk1.hp hp) W hp) rfl) ?_ | refine wl_load rfl rfl rfl rfl (fun W hp => RowAt.load 4 Tryz.hT rfl ((fun W1 hp => hk1.hp hp) W hp) rfl) ?_ | refine wl_load rfl rfl rfl rfl (fun W hp => RowAt.load 5 Tryz.hT rfl ((fun W1 hp => hk1.hp hp) W hp) rfl) ?_ | refine wl_load rfl rfl rfl rfl (fun W hp => RowAt.load 6 Tryz.hT rfl ((fun W1 hp => hk1.hp hp) W hp) rfl) ?_ | refine wl_load rfl rfl rfl rfl (fun W hp => RowAt.load 7 Tryz.hT rfl ((fun W1 hp => hk1.hp hp) W hp) rfl) ?_ | refine wq_load rfl rfl rfl rfl (fun W hp => RowAt.load 0 Tryz.hT rfl ((fun W1 hp => hk1.hp hp) W hp) rfl) ?_ | refine wq_load rfl rfl rfl rfl (fun W hp => RowAt.load 1 Tryz.hT rfl ((fun W1 hp => hk1.hp hp) W hp) rfl) ?_ | refine wq_load rfl rfl rfl rfl (fun W hp => RowAt.load 2 Tryz.hT rfl ((fun W1 hp => hk1.hp hp) W hp) rfl) ?_ | refine wq_load rfl rfl rfl rfl (fun W hp => RowAt.load 3 Tryz.hT rfl ((fun W1 hp => hk1.hp hp) W hp) rfl) ?_ | refine wq_load rfl rfl rfl rfl (fun W hp => RowAt.load 4 Tryz.hT rfl ((fun W1 hp => hk1.hp hp) W hp) rfl) ?_ | refine wq_load rfl rfl rfl rfl (fun W hp => RowAt.load 5 Tryz.hT rfl ((fun W1 hp => hk1.hp hp) W hp) rfl) ?_ | refine wq_load rfl rfl rfl rfl (fun W hp => RowAt.load 6 Tryz.hT rfl ((fun W1 hp => hk1.hp hp) W hp) rfl) ?_ | refine wq_load rfl rfl rfl rfl (fun W hp => RowAt.load 7 Tryz.hT rfl ((fun W1 hp => hk1.hp hp) W hp) rfl) ?_)
    refine wl_pure Tryz.hT rfl rfl rfl ?_
    refine wl_nil ?_
    repeat (first | refine zA ?_ | refine zB ?_ | refine zC ?_ | refine zD ?_ | refine zE ?_ | refine zF ?_ | refine zG ?_ | refine zH ?_ | refine zI ?_ | refine zJ ?_ | refine zK ?_ | refine zL ?_ | refine zM rfl ?_ | refine zN ?_ | refine zO ?_ | refine zP ?_ | refine zQ ?_ | refine zR rfl ?_ | refine zS rfl ?_ | refine zT Tryz.mixed (by kernel_rfl) ?_)
    refine wl_pure Tryz.hT rfl rfl rfl ?_
    refine wl_pure Tryz.hT rfl rfl rfl ?_
    refine wl_pure Tryz.hT rfl rfl rfl ?_
    refine wl_pure Tryz.hT rfl rfl rfl ?_
    refine wl_pure Tryz.hT rfl rfl rfl ?_
    refine wl_nil ?_
    repeat (first | refine zA ?_ | refine zB ?_ | refine zC ?_ | refine zD ?_ | refine zE ?_ | refine zF ?_ | refine zG ?_ | refine zH ?_ | refine zI ?_ | refine zJ ?_ | refine zK ?_ | refine zL ?_ | refine zM rfl ?_ | refine zN ?_ | refine zO ?_ | refine zP ?_ | refine zQ ?_ | refine zR rfl ?_ | refine zS rfl ?_ | refine zT Tryz.mixed (by kernel_rfl) ?_)
    refine wl_pure Tryz.hT rfl rfl rfl ?_
    refine wl_pure Tryz.hT rfl rfl rfl ?_
    refine wl_nil ?_
    repeat (first | refine zA ?_ | refine zB ?_ | refine zC ?_ | refine zD ?_ | refine zE ?_ | refine zF ?_ | refine zG ?_ | refine zH ?_ | refine zI ?_ | refine zJ ?_ | refine zK ?_ | refine zL ?_ | refine zM rfl ?_ | refine zN ?_ | refine zO ?_ | refine zP ?_ | refine zQ ?_ | refine zR rfl ?_ | refine zS rfl ?_ | refine zT Tryz.mixed (by kernel_rfl) ?_)
    exact ne_loop (k + 1) hk (by omega) ⟨rfl, rfl, rfl, rfl, congrArg (fun z => some (Value.int .i64 z)) ((wrap_id (x := ((tot (rs.take k) : Nat) : Int) + ((rg rs k).length : Nat)) (by omega) (by omega)).trans (by rw [t1]; rfl)), rfl, rfl, congrArg (fun z => some (Value.int .i64 z)) (wrap_id (x := (k : Int) + 1) (by omega) (by omega)), trivial⟩ [] rfl
  have ek : k = r := by have h' : decide ((k : Int) < (r : Nat)) = false := h; rw [decide_eq_false_iff_not] at h'; omega
  clear h
  subst ek
  repeat (first | refine zA ?_ | refine zB ?_ | refine zC ?_ | refine zD ?_ | refine zE ?_ | refine zF ?_ | refine zG ?_ | refine zH ?_ | refine zI ?_ | refine zJ ?_ | refine zK ?_ | refine zL ?_ | refine zM rfl ?_ | refine zN ?_ | refine zO ?_ | refine zP ?_ | refine zQ ?_ | refine zR rfl ?_ | refine zS rfl ?_ | refine zT Tryz.mixed (by kernel_rfl) ?_)
  have htr := tot_at hr hi
  repeat (first | refine zA ?_ | refine zB ?_ | refine zC ?_ | refine zD ?_ | refine zE ?_ | refine zF ?_ | refine zG ?_ | refine zH ?_ | refine zI ?_ | refine zJ ?_ | refine zK ?_ | refine zL ?_ | refine zM rfl ?_ | refine zN ?_ | refine zO ?_ | refine zP ?_ | refine zQ ?_ | refine zR rfl ?_ | refine zS rfl ?_ | refine zT Tryz.mixed (by kernel_rfl) ?_)
  (first | refine wl_loadBx 0 Tryz.hT rfl rfl rfl rfl rfl rfl rfl rfl ?_)
  refine wl_pure Tryz.hT rfl rfl rfl ?_
  refine wl_pure Tryz.hT rfl rfl rfl ?_
  refine wl_pure Tryz.hT rfl rfl rfl ?_
  refine wl_upd 134 (.int .i64 ((tot (rs.take k) + i : Nat) : Int)) rfl (congrArg (Value.int .i64) ((wrap_id (x := ((tot (rs.take k) : Nat) : Int) + (i : Nat)) (by omega) (by omega)).trans (by omega))) ?_
  have ec : cvxV rs ((tot (rs.take k) + i : Nat) : Int) = .tuple #[.bool (lefq rs (k, i)), .int .i64 0] := by unfold cvxV; rw [loc_of hr hi]
  refine wl_call1 rfl rfl rfl rfl rfl rfl (by kernel_rfl) (fun W1 hp => (convex_ok W1 _ cap rs _ hn (hR.hp hp) hc).cast ec) ?_
  refine wl_pure Tryz.hT rfl rfl rfl ?_
  refine wl_pure Tryz.hT rfl rfl rfl ?_
  refine wl_pure Tryz.hT rfl rfl rfl ?_
  refine wl_pure Tryz.hT rfl rfl rfl ?_
  refine wl_pure Tryz.hT rfl rfl rfl ?_
  refine wl_nil ?_
  repeat (first | refine zA ?_ | refine zB ?_ | refine zC ?_ | refine zD ?_ | refine zE ?_ | refine zF ?_ | refine zG ?_ | refine zH ?_ | refine zI ?_ | refine zJ ?_ | refine zK ?_ | refine zL ?_ | refine zM rfl ?_ | refine zN ?_ | refine zO ?_ | refine zP ?_ | refine zQ ?_ | refine zR rfl ?_ | refine zS rfl ?_ | refine zT Tryz.mixed (by kernel_rfl) ?_)
  refine wl_pure Tryz.hT rfl rfl rfl ?_
  refine wl_call (X := Vec × Made) rfl rfl rfl rfl rfl rfl (by kernel_rfl) (fun W1 hp => hcop hp rfl) ?_
  rintro ⟨V4, mk4⟩ ⟨hmk4, hV4⟩
  obtain ⟨p4, cp4, jk4⟩ := V4
  cases p4 with
  | none => have := hV4.nil rfl; omega
  | some g4 =>
  refine wl_upd 139 (planV (some ⟨g4, 0, none⟩) rs.length cp4) rfl rfl ?_
  (refine wl_allocZ Tryz.hZ rfl rfl rfl rfl ?_; intro)
  (first | refine wl_storeBx 3 Tryz.hT rfl rfl rfl rfl rfl rfl rfl rfl rfl rfl rfl ?_)
  refine wl_nil ?_
  rename_i b19
  repeat (first | refine zC ?_ | refine zD ?_ | refine zE ?_ | refine zF ?_ | refine zG ?_ | refine zH ?_ | refine zI ?_ | refine zJ ?_ | refine zK ?_ | refine zL ?_ | refine zM rfl ?_ | refine zN ?_ | refine zO ?_ | refine zP ?_ | refine zQ ?_ | refine zR rfl ?_ | refine zS rfl ?_)
  repeat refine wc_seq ?_
  obtain ⟨gU4, cU4, jU4, La4, Lb4, hat4⟩ := made_at hmk4 hne hr
  have hmk4 : MadeOK mk4 rs := hmk4
  have hV4 : (⟨some g4, cp4, jk4⟩ : Vec).OK 1 rs.length (rowCells mk4) := hV4
  obtain ⟨s0, hs0⟩ : ∃ s0, s0 = sd (rg rs k) i := ⟨_, rfl⟩
  obtain ⟨mk4', hmk4', hB4', hrow4'⟩ := hat4.same (l' := (rg rs k).set i (raise s0)) (List.length_set ..)
  have hrg : rgd s0 = true := (chk_parts hc).1 _ (List.mem_of_getElem? (rg_get hr)) s0 (by rw [hs0]; exact List.mem_of_getElem? (sd_get hi))
  have hpl := raise_plate hrg
  have hpb := rgd_plate hrg
  have w4 : splice (cellsOf (rg rs k) ++ jU4) (0 + i * 7 + 5) [.int .i64 (raise s0).plate] = cellsOf ((rg rs k).set i (raise s0)) ++ jU4 := by
    rw [Nat.zero_add]; exact set_cells (by decide) _ i hi (by rw [← hs0]; rfl)
  have fit4 : 0 + i * 7 + 5 + 1 ≤ (cellsOf (rg rs k) ++ jU4).length := by rw [List.length_append, cellsOf_length]; omega
  rw [show mkB mk4 = grpB (La4 ++ (gU4, ringO (rg rs k) jU4) :: Lb4) from hat4.blk]
  refine wc_lateY (X := Unit) [true, true, true, true, true, true, true, true, true, true, true, true, true, true, true, true, true, true, true, false] (fun _ => [(2, .pointer (some ⟨b2, 0, none⟩)), (6, .int .i64 (k : Nat)), (7, .int .i64 (i : Nat)), (17, .bool (lefq rs (k, i))), (18, .int .i64 0), (19, .pointer (some ⟨b19, 0, none⟩))])
    (fun _ => [⟨b2, 24, [slv (some ⟨b, off, none⟩) rs.length cap], true, none⟩, ⟨g4, 27, rowCells mk4 ++ jk4, true, none⟩, grpB (La4 ++ (gU4, ringO ((rg rs k).set i (raise s0)) jU4) :: Lb4), ⟨b19, 24, [slv (some ⟨g4, 0, none⟩) rs.length cp4], true, none⟩])
    1 [⟨b2, 24, [slv (some ⟨b, off, none⟩) rs.length cap], true, none⟩, ⟨g4, 27, rowCells mk4 ++ jk4, true, none⟩, grpB (La4 ++ (gU4, ringO (rg rs k) jU4) :: Lb4), ⟨b19, 24, [slv (some ⟨g4, 0, none⟩) rs.length cp4], true, none⟩] Tryz.mixed (by kernel_rfl) ?_ ?_
  · refine wq_pure Tryz.hT rfl rfl rfl ?_
    (first | refine wq_loadBx 3 Tryz.hT rfl rfl rfl rfl rfl rfl rfl rfl ?_)
    refine wq_pure Tryz.hT rfl rfl rfl ?_
    (first | refine wl_indexAddr Tryz.hT rfl rfl rfl rfl rfl rfl rfl (by omega) (by omega) ?_ | refine wq_indexAddr Tryz.hT rfl rfl rfl rfl rfl rfl rfl (by omega) (by omega) ?_)
    (first | refine wl_load rfl rfl rfl rfl (fun W hp => RowAt.load 0 Tryz.hT rfl ((fun W1 hp => row_val hp 1 rfl hat4.val) W hp) rfl) ?_ | refine wl_load rfl rfl rfl rfl (fun W hp => RowAt.load 1 Tryz.hT rfl ((fun W1 hp => row_val hp 1 rfl hat4.val) W hp) rfl) ?_ | refine wl_load rfl rfl rfl rfl (fun W hp => RowAt.load 2 Tryz.hT rfl ((fun W1 hp => row_val hp 1 rfl hat4.val) W hp) rfl) ?_ | refine wl_load rfl rfl rfl rfl (fun W hp => RowAt.load 3 Tryz.hT rfl ((fun W1 hp => row_val hp 1 rfl hat4.val) W hp) rfl) ?_ | refine wl_load rfl rfl rfl rfl (fun W hp => RowAt.load 4 Tryz.hT rfl ((fun W1 hp => row_val hp 1 rfl hat4.val) W hp) rfl) ?_ | refine wl_load rfl rfl rfl rfl (fun W hp => RowAt.load 5 Tryz.hT rfl ((fun W1 hp => row_val hp 1 rfl hat4.val) W hp) rfl) ?_ | refine wl_load rfl rfl rfl rfl (fun W hp => RowAt.load 6 Tryz.hT rfl ((fun W1 hp => row_val hp 1 rfl hat4.val) W hp) rfl) ?_ | refine wl_load rfl rfl rfl rfl (fun W hp => RowAt.load 7 Tryz.hT rfl ((fun W1 hp => row_val hp 1 rfl hat4.val) W hp) rfl) ?_ | refine wq_load rfl rfl rfl rfl (fun W hp => RowAt.load 0 Tryz.hT rfl ((fun W1 hp => row_val hp 1 rfl hat4.val) W hp) rfl) ?_ | refine wq_load rfl rfl rfl rfl (fun W hp => RowAt.load 1 Tryz.hT rfl ((fun W1 hp => row_val hp 1 rfl hat4.val) W hp) rfl) ?_ | refine wq_load rfl rfl rfl rfl (fun W hp => RowAt.load 2 Tryz.hT rfl ((fun W1 hp => row_val hp 1 rfl hat4.val) W hp) rfl) ?_ | refine wq_load rfl rfl rfl rfl (fun W hp => RowAt.load 3 Tryz.hT rfl ((fun W1 hp => row_val hp 1 rfl hat4.val) W hp) rfl) ?_ | refine wq_load rfl rfl rfl rfl (fun W hp => RowAt.load 4 Tryz.hT rfl ((fun W1 hp => row_val hp 1 rfl hat4.val) W hp) rfl) ?_ | refine wq_load rfl rfl rfl rfl (fun W hp => RowAt.load 5 Tryz.hT rfl ((fun W1 hp => row_val hp 1 rfl hat4.val) W hp) rfl) ?_ | refine wq_load rfl rfl rfl rfl (fun W hp => RowAt.load 6 Tryz.hT rfl ((fun W1 hp => row_val hp 1 rfl hat4.val) W hp) rfl) ?_ | refine wq_load rfl rfl rfl rfl (fun W hp => RowAt.load 7 Tryz.hT rfl ((fun W1 hp => row_val hp 1 rfl hat4.val) W hp) rfl) ?_)
    refine wq_pure Tryz.hT rfl rfl rfl ?_
    refine wq_pure Tryz.hT rfl rfl rfl ?_
    (first | refine wq_loadBx 3 Tryz.hT rfl rfl rfl rfl rfl rfl rfl rfl ?_)
    refine wq_pure Tryz.hT rfl rfl rfl ?_
    (first | refine wl_indexAddr Tryz.hT rfl rfl rfl rfl rfl rfl rfl (by omega) (by omega) ?_ | refine wq_indexAddr Tryz.hT rfl rfl rfl rfl rfl rfl rfl (by omega) (by omega) ?_)
    (first | refine wl_load rfl rfl rfl rfl (fun W hp => RowAt.load 0 Tryz.hT rfl ((fun W1 hp => row_val hp 1 rfl hat4.val) W hp) rfl) ?_ | refine wl_load rfl rfl rfl rfl (fun W hp => RowAt.load 1 Tryz.hT rfl ((fun W1 hp => row_val hp 1 rfl hat4.val) W hp) rfl) ?_ | refine wl_load rfl rfl rfl rfl (fun W hp => RowAt.load 2 Tryz.hT rfl ((fun W1 hp => row_val hp 1 rfl hat4.val) W hp) rfl) ?_ | refine wl_load rfl rfl rfl rfl (fun W hp => RowAt.load 3 Tryz.hT rfl ((fun W1 hp => row_val hp 1 rfl hat4.val) W hp) rfl) ?_ | refine wl_load rfl rfl rfl rfl (fun W hp => RowAt.load 4 Tryz.hT rfl ((fun W1 hp => row_val hp 1 rfl hat4.val) W hp) rfl) ?_ | refine wl_load rfl rfl rfl rfl (fun W hp => RowAt.load 5 Tryz.hT rfl ((fun W1 hp => row_val hp 1 rfl hat4.val) W hp) rfl) ?_ | refine wl_load rfl rfl rfl rfl (fun W hp => RowAt.load 6 Tryz.hT rfl ((fun W1 hp => row_val hp 1 rfl hat4.val) W hp) rfl) ?_ | refine wl_load rfl rfl rfl rfl (fun W hp => RowAt.load 7 Tryz.hT rfl ((fun W1 hp => row_val hp 1 rfl hat4.val) W hp) rfl) ?_ | refine wq_load rfl rfl rfl rfl (fun W hp => RowAt.load 0 Tryz.hT rfl ((fun W1 hp => row_val hp 1 rfl hat4.val) W hp) rfl) ?_ | refine wq_load rfl rfl rfl rfl (fun W hp => RowAt.load 1 Tryz.hT rfl ((fun W1 hp => row_val hp 1 rfl hat4.val) W hp) rfl) ?_ | refine wq_load rfl rfl rfl rfl (fun W hp => RowAt.load 2 Tryz.hT rfl ((fun W1 hp => row_val hp 1 rfl hat4.val) W hp) rfl) ?_ | refine wq_load rfl rfl rfl rfl (fun W hp => RowAt.load 3 Tryz.hT rfl ((fun W1 hp => row_val hp 1 rfl hat4.val) W hp) rfl) ?_ | refine wq_load rfl rfl rfl rfl (fun W hp => RowAt.load 4 Tryz.hT rfl ((fun W1 hp => row_val hp 1 rfl hat4.val) W hp) rfl) ?_ | refine wq_load rfl rfl rfl rfl (fun W hp => RowAt.load 5 Tryz.hT rfl ((fun W1 hp => row_val hp 1 rfl hat4.val) W hp) rfl) ?_ | refine wq_load rfl rfl rfl rfl (fun W hp => RowAt.load 6 Tryz.hT rfl ((fun W1 hp => row_val hp 1 rfl hat4.val) W hp) rfl) ?_ | refine wq_load rfl rfl rfl rfl (fun W hp => RowAt.load 7 Tryz.hT rfl ((fun W1 hp => row_val hp 1 rfl hat4.val) W hp) rfl) ?_)
    refine wq_pure Tryz.hT rfl rfl rfl ?_
    (first | refine wl_indexAddr Tryz.hT rfl rfl rfl rfl rfl rfl rfl (by omega) (by omega) ?_ | refine wq_indexAddr Tryz.hT rfl rfl rfl rfl rfl rfl rfl (by omega) (by omega) ?_)
    refine wq_pure Tryz.hT rfl rfl rfl ?_
    (first | refine wl_load rfl rfl rfl rfl (fun W hp => RowAt.load 0 Tryz.hT rfl ((fun W1 hp => show RowAt W1 gU4 (0 + i * 7) s0.cells from by rw [hs0]; exact grp_side hp 2 rfl hi) W hp) rfl) ?_ | refine wl_load rfl rfl rfl rfl (fun W hp => RowAt.load 1 Tryz.hT rfl ((fun W1 hp => show RowAt W1 gU4 (0 + i * 7) s0.cells from by rw [hs0]; exact grp_side hp 2 rfl hi) W hp) rfl) ?_ | refine wl_load rfl rfl rfl rfl (fun W hp => RowAt.load 2 Tryz.hT rfl ((fun W1 hp => show RowAt W1 gU4 (0 + i * 7) s0.cells from by rw [hs0]; exact grp_side hp 2 rfl hi) W hp) rfl) ?_ | refine wl_load rfl rfl rfl rfl (fun W hp => RowAt.load 3 Tryz.hT rfl ((fun W1 hp => show RowAt W1 gU4 (0 + i * 7) s0.cells from by rw [hs0]; exact grp_side hp 2 rfl hi) W hp) rfl) ?_ | refine wl_load rfl rfl rfl rfl (fun W hp => RowAt.load 4 Tryz.hT rfl ((fun W1 hp => show RowAt W1 gU4 (0 + i * 7) s0.cells from by rw [hs0]; exact grp_side hp 2 rfl hi) W hp) rfl) ?_ | refine wl_load rfl rfl rfl rfl (fun W hp => RowAt.load 5 Tryz.hT rfl ((fun W1 hp => show RowAt W1 gU4 (0 + i * 7) s0.cells from by rw [hs0]; exact grp_side hp 2 rfl hi) W hp) rfl) ?_ | refine wl_load rfl rfl rfl rfl (fun W hp => RowAt.load 6 Tryz.hT rfl ((fun W1 hp => show RowAt W1 gU4 (0 + i * 7) s0.cells from by rw [hs0]; exact grp_side hp 2 rfl hi) W hp) rfl) ?_ | refine wl_load rfl rfl rfl rfl (fun W hp => RowAt.load 7 Tryz.hT rfl ((fun W1 hp => show RowAt W1 gU4 (0 + i * 7) s0.cells from by rw [hs0]; exact grp_side hp 2 rfl hi) W hp) rfl) ?_ | refine wq_load rfl rfl rfl rfl (fun W hp => RowAt.load 0 Tryz.hT rfl ((fun W1 hp => show RowAt W1 gU4 (0 + i * 7) s0.cells from by rw [hs0]; exact grp_side hp 2 rfl hi) W hp) rfl) ?_ | refine wq_load rfl rfl rfl rfl (fun W hp => RowAt.load 1 Tryz.hT rfl ((fun W1 hp => show RowAt W1 gU4 (0 + i * 7) s0.cells from by rw [hs0]; exact grp_side hp 2 rfl hi) W hp) rfl) ?_ | refine wq_load rfl rfl rfl rfl (fun W hp => RowAt.load 2 Tryz.hT rfl ((fun W1 hp => show RowAt W1 gU4 (0 + i * 7) s0.cells from by rw [hs0]; exact grp_side hp 2 rfl hi) W hp) rfl) ?_ | refine wq_load rfl rfl rfl rfl (fun W hp => RowAt.load 3 Tryz.hT rfl ((fun W1 hp => show RowAt W1 gU4 (0 + i * 7) s0.cells from by rw [hs0]; exact grp_side hp 2 rfl hi) W hp) rfl) ?_ | refine wq_load rfl rfl rfl rfl (fun W hp => RowAt.load 4 Tryz.hT rfl ((fun W1 hp => show RowAt W1 gU4 (0 + i * 7) s0.cells from by rw [hs0]; exact grp_side hp 2 rfl hi) W hp) rfl) ?_ | refine wq_load rfl rfl rfl rfl (fun W hp => RowAt.load 5 Tryz.hT rfl ((fun W1 hp => show RowAt W1 gU4 (0 + i * 7) s0.cells from by rw [hs0]; exact grp_side hp 2 rfl hi) W hp) rfl) ?_ | refine wq_load rfl rfl rfl rfl (fun W hp => RowAt.load 6 Tryz.hT rfl ((fun W1 hp => show RowAt W1 gU4 (0 + i * 7) s0.cells from by rw [hs0]; exact grp_side hp 2 rfl hi) W hp) rfl) ?_ | refine wq_load rfl rfl rfl rfl (fun W hp => RowAt.load 7 Tryz.hT rfl ((fun W1 hp => show RowAt W1 gU4 (0 + i * 7) s0.cells from by rw [hs0]; exact grp_side hp 2 rfl hi) W hp) rfl) ?_)
    refine wq_pure Tryz.hT rfl rfl rfl ?_
    refine wq_rem rfl rfl rfl rfl rfl (by decide) ?_
    refine wq_upd 156 (.int .i64 (raise s0).plate) rfl (congrArg (Value.int .i64) (congrArg (fun z => Int.tmod z 60000) (wrap_id (x := s0.plate + 1) (by omega) (by omega)))) ?_
    (first | refine wl_indexAddr Tryz.hT rfl rfl rfl rfl rfl rfl rfl (by omega) (by omega) ?_ | refine wq_indexAddr Tryz.hT rfl rfl rfl rfl rfl rfl rfl (by omega) (by omega) ?_)
    refine wq_pure Tryz.hT rfl rfl rfl ?_
    refine wq_wt ?_
    first | refine wt_step rfl rfl (by ((repeat (first | refine Weak.same ?_ | refine Weak.off rfl ?_)); exact trivial)) ?_ | refine wt_stepF rfl rfl (by kernel_rfl) ?_
    refine RS.cons ?_ (RS.nil)
    refine wl_storeG 2 (cellsOf ((rg rs k).set i (raise s0)) ++ jU4) (grpB (La4 ++ (gU4, ringO ((rg rs k).set i (raise s0)) jU4) :: Lb4)) Tryz.hT rfl rfl rfl rfl rfl rfl rfl rfl rfl rfl rfl fit4 w4 ?_
    refine wl_nil ?_
    refine ne_wt ?_
    first | refine wt_done rfl (by ((repeat (first | refine Weak.same ?_ | refine Weak.off rfl ?_)); exact trivial)) ?_ | refine wt_doneF rfl (by kernel_rfl) ?_
    exact ne_late () ⟨rfl, rfl, rfl, rfl, rfl, rfl, trivial⟩ [0, 1, 2, 3] (by decide) rfl
  intro _
  repeat (first | refine zA ?_ | refine zB ?_ | refine zC ?_ | refine zD ?_ | refine zE ?_ | refine zF ?_ | refine zG ?_ | refine zH ?_ | refine zI ?_ | refine zJ ?_ | refine zK ?_ | refine zL ?_ | refine zM rfl ?_ | refine zN ?_ | refine zO ?_ | refine zP ?_ | refine zQ ?_ | refine zR rfl ?_ | refine zS rfl ?_ | refine zT Tryz.mixed (by kernel_rfl) ?_)
  refine wq_pure Tryz.hT rfl rfl rfl ?_
  (first | refine wq_loadBx 3 Tryz.hT rfl rfl rfl rfl rfl rfl rfl rfl ?_)
  refine wq_pure Tryz.hT rfl rfl rfl ?_
  (first | refine wl_indexAddr Tryz.hT rfl rfl rfl rfl rfl rfl rfl (by omega) (by omega) ?_ | refine wq_indexAddr Tryz.hT rfl rfl rfl rfl rfl rfl rfl (by omega) (by omega) ?_)
  (first | refine wl_load rfl rfl rfl rfl (fun W hp => RowAt.load 0 Tryz.hT rfl ((fun W1 hp => row_val hp 1 rfl hat4.val) W hp) rfl) ?_ | refine wl_load rfl rfl rfl rfl (fun W hp => RowAt.load 1 Tryz.hT rfl ((fun W1 hp => row_val hp 1 rfl hat4.val) W hp) rfl) ?_ | refine wl_load rfl rfl rfl rfl (fun W hp => RowAt.load 2 Tryz.hT rfl ((fun W1 hp => row_val hp 1 rfl hat4.val) W hp) rfl) ?_ | refine wl_load rfl rfl rfl rfl (fun W hp => RowAt.load 3 Tryz.hT rfl ((fun W1 hp => row_val hp 1 rfl hat4.val) W hp) rfl) ?_ | refine wl_load rfl rfl rfl rfl (fun W hp => RowAt.load 4 Tryz.hT rfl ((fun W1 hp => row_val hp 1 rfl hat4.val) W hp) rfl) ?_ | refine wl_load rfl rfl rfl rfl (fun W hp => RowAt.load 5 Tryz.hT rfl ((fun W1 hp => row_val hp 1 rfl hat4.val) W hp) rfl) ?_ | refine wl_load rfl rfl rfl rfl (fun W hp => RowAt.load 6 Tryz.hT rfl ((fun W1 hp => row_val hp 1 rfl hat4.val) W hp) rfl) ?_ | refine wl_load rfl rfl rfl rfl (fun W hp => RowAt.load 7 Tryz.hT rfl ((fun W1 hp => row_val hp 1 rfl hat4.val) W hp) rfl) ?_ | refine wq_load rfl rfl rfl rfl (fun W hp => RowAt.load 0 Tryz.hT rfl ((fun W1 hp => row_val hp 1 rfl hat4.val) W hp) rfl) ?_ | refine wq_load rfl rfl rfl rfl (fun W hp => RowAt.load 1 Tryz.hT rfl ((fun W1 hp => row_val hp 1 rfl hat4.val) W hp) rfl) ?_ | refine wq_load rfl rfl rfl rfl (fun W hp => RowAt.load 2 Tryz.hT rfl ((fun W1 hp => row_val hp 1 rfl hat4.val) W hp) rfl) ?_ | refine wq_load rfl rfl rfl rfl (fun W hp => RowAt.load 3 Tryz.hT rfl ((fun W1 hp => row_val hp 1 rfl hat4.val) W hp) rfl) ?_ | refine wq_load rfl rfl rfl rfl (fun W hp => RowAt.load 4 Tryz.hT rfl ((fun W1 hp => row_val hp 1 rfl hat4.val) W hp) rfl) ?_ | refine wq_load rfl rfl rfl rfl (fun W hp => RowAt.load 5 Tryz.hT rfl ((fun W1 hp => row_val hp 1 rfl hat4.val) W hp) rfl) ?_ | refine wq_load rfl rfl rfl rfl (fun W hp => RowAt.load 6 Tryz.hT rfl ((fun W1 hp => row_val hp 1 rfl hat4.val) W hp) rfl) ?_ | refine wq_load rfl rfl rfl rfl (fun W hp => RowAt.load 7 Tryz.hT rfl ((fun W1 hp => row_val hp 1 rfl hat4.val) W hp) rfl) ?_)
  refine wq_pure Tryz.hT rfl rfl rfl ?_
  (first | refine wl_indexAddr Tryz.hT rfl rfl rfl rfl rfl rfl rfl (by omega) (by omega) ?_ | refine wq_indexAddr Tryz.hT rfl rfl rfl rfl rfl rfl rfl (by omega) (by omega) ?_)
  refine wq_pure Tryz.hT rfl rfl rfl ?_
  (first | refine wl_load rfl rfl rfl rfl (fun W hp => RowAt.load 0 Tryz.hT rfl ((fun W1 hp => show RowAt W1 gU4 (0 + i * 7) (raise s0).cells from by have := grp_side hp 2 rfl (i := i) (by rw [List.length_set]; exact hi); rw [sd_setL hi, if_pos rfl] at this; exact this) W hp) rfl) ?_ | refine wl_load rfl rfl rfl rfl (fun W hp => RowAt.load 1 Tryz.hT rfl ((fun W1 hp => show RowAt W1 gU4 (0 + i * 7) (raise s0).cells from by have := grp_side hp 2 rfl (i := i) (by rw [List.length_set]; exact hi); rw [sd_setL hi, if_pos rfl] at this; exact this) W hp) rfl) ?_ | refine wl_load rfl rfl rfl rfl (fun W hp => RowAt.load 2 Tryz.hT rfl ((fun W1 hp => show RowAt W1 gU4 (0 + i * 7) (raise s0).cells from by have := grp_side hp 2 rfl (i := i) (by rw [List.length_set]; exact hi); rw [sd_setL hi, if_pos rfl] at this; exact this) W hp) rfl) ?_ | refine wl_load rfl rfl rfl rfl (fun W hp => RowAt.load 3 Tryz.hT rfl ((fun W1 hp => show RowAt W1 gU4 (0 + i * 7) (raise s0).cells from by have := grp_side hp 2 rfl (i := i) (by rw [List.length_set]; exact hi); rw [sd_setL hi, if_pos rfl] at this; exact this) W hp) rfl) ?_ | refine wl_load rfl rfl rfl rfl (fun W hp => RowAt.load 4 Tryz.hT rfl ((fun W1 hp => show RowAt W1 gU4 (0 + i * 7) (raise s0).cells from by have := grp_side hp 2 rfl (i := i) (by rw [List.length_set]; exact hi); rw [sd_setL hi, if_pos rfl] at this; exact this) W hp) rfl) ?_ | refine wl_load rfl rfl rfl rfl (fun W hp => RowAt.load 5 Tryz.hT rfl ((fun W1 hp => show RowAt W1 gU4 (0 + i * 7) (raise s0).cells from by have := grp_side hp 2 rfl (i := i) (by rw [List.length_set]; exact hi); rw [sd_setL hi, if_pos rfl] at this; exact this) W hp) rfl) ?_ | refine wl_load rfl rfl rfl rfl (fun W hp => RowAt.load 6 Tryz.hT rfl ((fun W1 hp => show RowAt W1 gU4 (0 + i * 7) (raise s0).cells from by have := grp_side hp 2 rfl (i := i) (by rw [List.length_set]; exact hi); rw [sd_setL hi, if_pos rfl] at this; exact this) W hp) rfl) ?_ | refine wl_load rfl rfl rfl rfl (fun W hp => RowAt.load 7 Tryz.hT rfl ((fun W1 hp => show RowAt W1 gU4 (0 + i * 7) (raise s0).cells from by have := grp_side hp 2 rfl (i := i) (by rw [List.length_set]; exact hi); rw [sd_setL hi, if_pos rfl] at this; exact this) W hp) rfl) ?_ | refine wq_load rfl rfl rfl rfl (fun W hp => RowAt.load 0 Tryz.hT rfl ((fun W1 hp => show RowAt W1 gU4 (0 + i * 7) (raise s0).cells from by have := grp_side hp 2 rfl (i := i) (by rw [List.length_set]; exact hi); rw [sd_setL hi, if_pos rfl] at this; exact this) W hp) rfl) ?_ | refine wq_load rfl rfl rfl rfl (fun W hp => RowAt.load 1 Tryz.hT rfl ((fun W1 hp => show RowAt W1 gU4 (0 + i * 7) (raise s0).cells from by have := grp_side hp 2 rfl (i := i) (by rw [List.length_set]; exact hi); rw [sd_setL hi, if_pos rfl] at this; exact this) W hp) rfl) ?_ | refine wq_load rfl rfl rfl rfl (fun W hp => RowAt.load 2 Tryz.hT rfl ((fun W1 hp => show RowAt W1 gU4 (0 + i * 7) (raise s0).cells from by have := grp_side hp 2 rfl (i := i) (by rw [List.length_set]; exact hi); rw [sd_setL hi, if_pos rfl] at this; exact this) W hp) rfl) ?_ | refine wq_load rfl rfl rfl rfl (fun W hp => RowAt.load 3 Tryz.hT rfl ((fun W1 hp => show RowAt W1 gU4 (0 + i * 7) (raise s0).cells from by have := grp_side hp 2 rfl (i := i) (by rw [List.length_set]; exact hi); rw [sd_setL hi, if_pos rfl] at this; exact this) W hp) rfl) ?_ | refine wq_load rfl rfl rfl rfl (fun W hp => RowAt.load 4 Tryz.hT rfl ((fun W1 hp => show RowAt W1 gU4 (0 + i * 7) (raise s0).cells from by have := grp_side hp 2 rfl (i := i) (by rw [List.length_set]; exact hi); rw [sd_setL hi, if_pos rfl] at this; exact this) W hp) rfl) ?_ | refine wq_load rfl rfl rfl rfl (fun W hp => RowAt.load 5 Tryz.hT rfl ((fun W1 hp => show RowAt W1 gU4 (0 + i * 7) (raise s0).cells from by have := grp_side hp 2 rfl (i := i) (by rw [List.length_set]; exact hi); rw [sd_setL hi, if_pos rfl] at this; exact this) W hp) rfl) ?_ | refine wq_load rfl rfl rfl rfl (fun W hp => RowAt.load 6 Tryz.hT rfl ((fun W1 hp => show RowAt W1 gU4 (0 + i * 7) (raise s0).cells from by have := grp_side hp 2 rfl (i := i) (by rw [List.length_set]; exact hi); rw [sd_setL hi, if_pos rfl] at this; exact this) W hp) rfl) ?_ | refine wq_load rfl rfl rfl rfl (fun W hp => RowAt.load 7 Tryz.hT rfl ((fun W1 hp => show RowAt W1 gU4 (0 + i * 7) (raise s0).cells from by have := grp_side hp 2 rfl (i := i) (by rw [List.length_set]; exact hi); rw [sd_setL hi, if_pos rfl] at this; exact this) W hp) rfl) ?_)
  refine wq_pure Tryz.hT rfl rfl rfl ?_
  (first | refine wq_loadBx 0 Tryz.hT rfl rfl rfl rfl rfl rfl rfl rfl ?_)
  refine wq_pure Tryz.hT rfl rfl rfl ?_
  (first | refine wl_indexAddr Tryz.hT rfl rfl rfl rfl rfl rfl rfl (by omega) (by omega) ?_ | refine wq_indexAddr Tryz.hT rfl rfl rfl rfl rfl rfl rfl (by omega) (by omega) ?_)
  (first | refine wl_load rfl rfl rfl rfl (fun W hp => RowAt.load 0 Tryz.hT rfl ((fun W1 hp => hq1.hp hp) W hp) rfl) ?_ | refine wl_load rfl rfl rfl rfl (fun W hp => RowAt.load 1 Tryz.hT rfl ((fun W1 hp => hq1.hp hp) W hp) rfl) ?_ | refine wl_load rfl rfl rfl rfl (fun W hp => RowAt.load 2 Tryz.hT rfl ((fun W1 hp => hq1.hp hp) W hp) rfl) ?_ | refine wl_load rfl rfl rfl rfl (fun W hp => RowAt.load 3 Tryz.hT rfl ((fun W1 hp => hq1.hp hp) W hp) rfl) ?_ | refine wl_load rfl rfl rfl rfl (fun W hp => RowAt.load 4 Tryz.hT rfl ((fun W1 hp => hq1.hp hp) W hp) rfl) ?_ | refine wl_load rfl rfl rfl rfl (fun W hp => RowAt.load 5 Tryz.hT rfl ((fun W1 hp => hq1.hp hp) W hp) rfl) ?_ | refine wl_load rfl rfl rfl rfl (fun W hp => RowAt.load 6 Tryz.hT rfl ((fun W1 hp => hq1.hp hp) W hp) rfl) ?_ | refine wl_load rfl rfl rfl rfl (fun W hp => RowAt.load 7 Tryz.hT rfl ((fun W1 hp => hq1.hp hp) W hp) rfl) ?_ | refine wq_load rfl rfl rfl rfl (fun W hp => RowAt.load 0 Tryz.hT rfl ((fun W1 hp => hq1.hp hp) W hp) rfl) ?_ | refine wq_load rfl rfl rfl rfl (fun W hp => RowAt.load 1 Tryz.hT rfl ((fun W1 hp => hq1.hp hp) W hp) rfl) ?_ | refine wq_load rfl rfl rfl rfl (fun W hp => RowAt.load 2 Tryz.hT rfl ((fun W1 hp => hq1.hp hp) W hp) rfl) ?_ | refine wq_load rfl rfl rfl rfl (fun W hp => RowAt.load 3 Tryz.hT rfl ((fun W1 hp => hq1.hp hp) W hp) rfl) ?_ | refine wq_load rfl rfl rfl rfl (fun W hp => RowAt.load 4 Tryz.hT rfl ((fun W1 hp => hq1.hp hp) W hp) rfl) ?_ | refine wq_load rfl rfl rfl rfl (fun W hp => RowAt.load 5 Tryz.hT rfl ((fun W1 hp => hq1.hp hp) W hp) rfl) ?_ | refine wq_load rfl rfl rfl rfl (fun W hp => RowAt.load 6 Tryz.hT rfl ((fun W1 hp => hq1.hp hp) W hp) rfl) ?_ | refine wq_load rfl rfl rfl rfl (fun W hp => RowAt.load 7 Tryz.hT rfl ((fun W1 hp => hq1.hp hp) W hp) rfl) ?_)
  refine wq_pure Tryz.hT rfl rfl rfl ?_
  (first | refine wl_indexAddr Tryz.hT rfl rfl rfl rfl rfl rfl rfl (by omega) (by omega) ?_ | refine wq_indexAddr Tryz.hT rfl rfl rfl rfl rfl rfl rfl (by omega) (by omega) ?_)
  refine wq_pure Tryz.hT rfl rfl rfl ?_
  (first | refine wl_load rfl rfl rfl rfl (fun W hp => RowAt.load 0 Tryz.hT rfl ((fun W1 hp => show RowAt W1 bq (oq + i * 7) s0.cells from by rw [hs0]; exact (hrq i hi).hp hp) W hp) rfl) ?_ | refine wl_load rfl rfl rfl rfl (fun W hp => RowAt.load 1 Tryz.hT rfl ((fun W1 hp => show RowAt W1 bq (oq + i * 7) s0.cells from by rw [hs0]; exact (hrq i hi).hp hp) W hp) rfl) ?_ | refine wl_load rfl rfl rfl rfl (fun W hp => RowAt.load 2 Tryz.hT rfl ((fun W1 hp => show RowAt W1 bq (oq + i * 7) s0.cells from by rw [hs0]; exact (hrq i hi).hp hp) W hp) rfl) ?_ | refine wl_load rfl rfl rfl rfl (fun W hp => RowAt.load 3 Tryz.hT rfl ((fun W1 hp => show RowAt W1 bq (oq + i * 7) s0.cells from by rw [hs0]; exact (hrq i hi).hp hp) W hp) rfl) ?_ | refine wl_load rfl rfl rfl rfl (fun W hp => RowAt.load 4 Tryz.hT rfl ((fun W1 hp => show RowAt W1 bq (oq + i * 7) s0.cells from by rw [hs0]; exact (hrq i hi).hp hp) W hp) rfl) ?_ | refine wl_load rfl rfl rfl rfl (fun W hp => RowAt.load 5 Tryz.hT rfl ((fun W1 hp => show RowAt W1 bq (oq + i * 7) s0.cells from by rw [hs0]; exact (hrq i hi).hp hp) W hp) rfl) ?_ | refine wl_load rfl rfl rfl rfl (fun W hp => RowAt.load 6 Tryz.hT rfl ((fun W1 hp => show RowAt W1 bq (oq + i * 7) s0.cells from by rw [hs0]; exact (hrq i hi).hp hp) W hp) rfl) ?_ | refine wl_load rfl rfl rfl rfl (fun W hp => RowAt.load 7 Tryz.hT rfl ((fun W1 hp => show RowAt W1 bq (oq + i * 7) s0.cells from by rw [hs0]; exact (hrq i hi).hp hp) W hp) rfl) ?_ | refine wq_load rfl rfl rfl rfl (fun W hp => RowAt.load 0 Tryz.hT rfl ((fun W1 hp => show RowAt W1 bq (oq + i * 7) s0.cells from by rw [hs0]; exact (hrq i hi).hp hp) W hp) rfl) ?_ | refine wq_load rfl rfl rfl rfl (fun W hp => RowAt.load 1 Tryz.hT rfl ((fun W1 hp => show RowAt W1 bq (oq + i * 7) s0.cells from by rw [hs0]; exact (hrq i hi).hp hp) W hp) rfl) ?_ | refine wq_load rfl rfl rfl rfl (fun W hp => RowAt.load 2 Tryz.hT rfl ((fun W1 hp => show RowAt W1 bq (oq + i * 7) s0.cells from by rw [hs0]; exact (hrq i hi).hp hp) W hp) rfl) ?_ | refine wq_load rfl rfl rfl rfl (fun W hp => RowAt.load 3 Tryz.hT rfl ((fun W1 hp => show RowAt W1 bq (oq + i * 7) s0.cells from by rw [hs0]; exact (hrq i hi).hp hp) W hp) rfl) ?_ | refine wq_load rfl rfl rfl rfl (fun W hp => RowAt.load 4 Tryz.hT rfl ((fun W1 hp => show RowAt W1 bq (oq + i * 7) s0.cells from by rw [hs0]; exact (hrq i hi).hp hp) W hp) rfl) ?_ | refine wq_load rfl rfl rfl rfl (fun W hp => RowAt.load 5 Tryz.hT rfl ((fun W1 hp => show RowAt W1 bq (oq + i * 7) s0.cells from by rw [hs0]; exact (hrq i hi).hp hp) W hp) rfl) ?_ | refine wq_load rfl rfl rfl rfl (fun W hp => RowAt.load 6 Tryz.hT rfl ((fun W1 hp => show RowAt W1 bq (oq + i * 7) s0.cells from by rw [hs0]; exact (hrq i hi).hp hp) W hp) rfl) ?_ | refine wq_load rfl rfl rfl rfl (fun W hp => RowAt.load 7 Tryz.hT rfl ((fun W1 hp => show RowAt W1 bq (oq + i * 7) s0.cells from by rw [hs0]; exact (hrq i hi).hp hp) W hp) rfl) ?_)
  refine wq_pure Tryz.hT rfl rfl rfl ?_
  refine wq_nil ?_
  refine wl_nil ?_
  repeat (first | refine zA ?_ | refine zB ?_ | refine zC ?_ | refine zD ?_ | refine zE ?_ | refine zF ?_ | refine zG ?_ | refine zH ?_ | refine zI ?_ | refine zJ ?_ | refine zK ?_ | refine zL ?_ | refine zM rfl ?_ | refine zN ?_ | refine zO ?_ | refine zP ?_ | refine zQ ?_ | refine zR rfl ?_ | refine zS rfl ?_ | refine zT Tryz.mixed (by kernel_rfl) ?_)
  refine wc_upd 177 (.bool false) rfl (congrArg Value.bool (beq_eq_false_iff_ne.2 hpl.1)) ?_
  repeat (first | refine zA ?_ | refine zB ?_ | refine zC ?_ | refine zD ?_ | refine zE ?_ | refine zF ?_ | refine zG ?_ | refine zH ?_ | refine zI ?_ | refine zJ ?_ | refine zK ?_ | refine zL ?_ | refine zM rfl ?_ | refine zN ?_ | refine zO ?_ | refine zP ?_ | refine zQ ?_ | refine zR rfl ?_ | refine zS rfl ?_ | refine zT Tryz.mixed (by kernel_rfl) ?_)
  have ht4 := tot_set hr ((rg rs k).set i (raise s0))
  rw [List.length_set] at ht4
  have hT4 : tot (rs.set k ((rg rs k).set i (raise s0))) < 1099511627776 := by omega
  cases hx : lefq rs (k, i) with
  | true =>
    repeat (first | refine zA ?_ | refine zB ?_ | refine zC ?_ | refine zD ?_ | refine zE ?_ | refine zF ?_ | refine zG ?_ | refine zH ?_ | refine zI ?_ | refine zJ ?_ | refine zK ?_ | refine zL ?_ | refine zM rfl ?_ | refine zN ?_ | refine zO ?_ | refine zP ?_ | refine zQ ?_ | refine zR rfl ?_ | refine zS rfl ?_ | refine zT Tryz.mixed (by kernel_rfl) ?_)
    refine wl_pure Tryz.hT rfl rfl rfl ?_
    refine wl_pure Tryz.hT rfl rfl rfl ?_
    refine wl_pure Tryz.hT rfl rfl rfl ?_
    refine wl_pure Tryz.hT rfl rfl rfl ?_
    refine wl_pure Tryz.hT rfl rfl rfl ?_
    refine wl_skip rfl rfl ?_
    refine wl_skip rfl rfl ?_
    refine wl_skip rfl rfl ?_
    (first | refine wl_pure Tryz.hT rfl rfl rfl ?_ | refine wl_skip rfl rfl ?_)
    refine wl_pure Tryz.hT rfl rfl rfl ?_
    refine wl_pure Tryz.hT rfl rfl rfl ?_
    refine wl_call1 rfl rfl rfl rfl rfl rfl (by kernel_rfl) (fun W hp => awake_gives W (ht.hp hp)) ?_
    refine wl_pure Tryz.hT rfl rfl rfl ?_
    refine wl_pure Tryz.hT rfl rfl rfl ?_
    refine wl_nil ?_
    repeat (first | refine zA ?_ | refine zB ?_ | refine zC ?_ | refine zD ?_ | refine zE ?_ | refine zF ?_ | refine zG ?_ | refine zH ?_ | refine zI ?_ | refine zJ ?_ | refine zK ?_ | refine zL ?_ | refine zM rfl ?_ | refine zN ?_ | refine zO ?_ | refine zP ?_ | refine zQ ?_ | refine zR rfl ?_ | refine zS rfl ?_ | refine zT Tryz.mixed (by kernel_rfl) ?_)
    exact ne_ret1 Tryz.hT rfl (.tmp rfl) () rfl trivial fun W _ => NewBx.nil _ _
  | false =>
    repeat (first | refine zA ?_ | refine zB ?_ | refine zC ?_ | refine zD ?_ | refine zE ?_ | refine zF ?_ | refine zG ?_ | refine zH ?_ | refine zI ?_ | refine zJ ?_ | refine zK ?_ | refine zL ?_ | refine zM rfl ?_ | refine zN ?_ | refine zO ?_ | refine zP ?_ | refine zQ ?_ | refine zR rfl ?_ | refine zS rfl ?_ | refine zT Tryz.mixed (by kernel_rfl) ?_)
    refine wl_pure Tryz.hT rfl rfl rfl ?_
    refine wl_pure Tryz.hT rfl rfl rfl ?_
    refine wl_pure Tryz.hT rfl rfl rfl ?_
    refine wl_pure Tryz.hT rfl rfl rfl ?_
    refine wl_pure Tryz.hT rfl rfl rfl ?_
    (first | refine wl_loadBx 3 Tryz.hT rfl rfl rfl rfl rfl rfl rfl rfl ?_)
    refine wl_call1 rfl rfl rfl rfl rfl rfl (by kernel_rfl) (fun W1 hp => chk14 W1 (List.length_set ..) hsm hT4 (by rw [hs0]; exact chk_raise hc hr hi hx) (rings_of hmk4' (List.length_set ..) (by rw [hrow4']; exact hV4) hp 1 2 (by rw [hrow4']; rfl) (by rw [hB4']; rfl))) ?_
    refine wl_pure Tryz.hT rfl rfl rfl ?_
    refine wl_pure Tryz.hT rfl rfl rfl ?_
    refine wl_pure Tryz.hT rfl rfl rfl ?_
    refine wl_pure Tryz.hT rfl rfl rfl ?_
    refine wl_call1 rfl rfl rfl rfl rfl rfl (by kernel_rfl) (fun W hp => awake_gives W (ht.hp hp)) ?_
    refine wl_pure Tryz.hT rfl rfl rfl ?_
    refine wl_pure Tryz.hT rfl rfl rfl ?_
    refine wl_nil ?_
    repeat (first | refine zA ?_ | refine zB ?_ | refine zC ?_ | refine zD ?_ | refine zE ?_ | refine zF ?_ | refine zG ?_ | refine zH ?_ | refine zI ?_ | refine zJ ?_ | refine zK ?_ | refine zL ?_ | refine zM rfl ?_ | refine zN ?_ | refine zO ?_ | refine zP ?_ | refine zQ ?_ | refine zR rfl ?_ | refine zS rfl ?_ | refine zT Tryz.mixed (by kernel_rfl) ?_)
    exact ne_ret1 Tryz.hT rfl (.tmp rfl) () rfl trivial fun W _ => NewBx.nil _ _
end Go.Proofs.YtnpfkmbcejgnjaaGreatDoor
