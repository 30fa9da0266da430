/-
  Print gives the text of a valid plan.
-/
import Derived.Test.YtnpfkmbcejgnjaaGreatDoorPieces
import Derived.Test.YtnpfkmbcejgnjaaGreatDoorTextMath
import Derived.Test.YtnpfkmbcejgnjaaGreatDoorAreaF
namespace Go.Proofs.YtnpfkmbcejgnjaaGreatDoor
open Go Go.RowKit Go.Am Go.Lib
set_option maxRecDepth 10000
-- BOXES 4
/-! ### Lengths -/
theorem okSd_of {s : Sd} (h : rgd s = true) : okSd s ∧ (lineOf s).length ≤ 200 := by
  have hi : ∀ n : Int, 0 ≤ n → n ≤ 65536 → okI n ∧ (itoa n).length ≤ 18 := fun n h0 h1 => by
    have hl : (itoa n).length ≤ 9 := by
      unfold itoa
      rw [if_neg (by omega)]
      exact dd_len 9 n.toNat (by omega) (by omega)
    exact ⟨⟨h0, hl⟩, by omega⟩
  unfold rgd btw at h
  simp only [Bool.and_eq_true, decide_eq_true_eq] at h
  obtain ⟨hp, ⟨⟨hx, hy⟩, hpl⟩, ho⟩ := h
  obtain ⟨ox, lx⟩ := hi s.x hx.1 hx.2
  obtain ⟨oy, ly⟩ := hi s.y hy.1 hy.2
  obtain ⟨op, lp⟩ := hi s.plate hpl.1 hpl.2
  obtain ⟨oo, lo⟩ := hi s.over ho.1 ho.2
  cases hg : s.gable with
  | true =>
    rw [hg] at hp
    have hp' : (s.rise == 0 && s.run == 0) = true := hp
    simp only [Bool.and_eq_true, beq_iff_eq] at hp'
    refine ⟨⟨ox, oy, fun _ => hp', fun h => (by rw [hg] at h; cases h), op, oo⟩, ?_⟩
    unfold lineOf wordsOf
    rw [if_pos hg, join_length]
    simp only [lens, List.map_cons, List.map_nil, List.sum_cons, List.sum_nil, List.length_cons, List.length_nil, gableW]
    omega
  | false =>
    rw [hg] at hp
    have hp' : ((decide (1 ≤ s.rise) && decide (s.rise ≤ 48)) && (decide (1 ≤ s.run) && decide (s.run ≤ 48))) = true := hp
    simp only [Bool.and_eq_true, decide_eq_true_eq] at hp'
    obtain ⟨or_, lr⟩ := hi s.rise (by omega) (by omega)
    obtain ⟨ou, lu⟩ := hi s.run (by omega) (by omega)
    refine ⟨⟨ox, oy, fun h => (by rw [hg] at h; cases h), fun _ => ⟨or_, ou⟩, op, oo⟩, ?_⟩
    unfold lineOf wordsOf
    rw [if_neg (by rw [hg]; decide), join_length]
    simp only [lens, List.map_cons, List.map_nil, List.sum_cons, List.sum_nil, List.length_cons, List.length_nil]
    omega
abbrev rl : List UInt8 := ringW ++ [10]
/-- The text up to a side. -/
def txt (rs : List (List Sd)) (r i : Nat) : List UInt8 := planText (rs.take r) ++ ((ringW ++ [10]) ++ unl (((rg rs r).take i).map lineOf))
theorem txt_zero (rs : List (List Sd)) (r : Nat) : txt rs r 0 = planText (rs.take r) ++ rl := by
  unfold txt
  rw [List.take_zero, List.map_nil]
  show _ ++ ((ringW ++ [10]) ++ []) = _
  rw [List.append_nil]
theorem txt_succ {rs : List (List Sd)} {r i : Nat} (hi : i < (rg rs r).length) : txt rs r (i + 1) = (txt rs r i ++ lineOf (sd (rg rs r) i)) ++ [10] := by
  have e : (rg rs r).take (i + 1) = (rg rs r).take i ++ [sd (rg rs r) i] := by rw [List.take_add_one, sd_get hi]; rfl
  unfold txt
  rw [e, List.map_append, unl_app, List.map_cons, List.map_nil, unl_cons]
  simp [unl]
theorem txt_all {rs : List (List Sd)} {r : Nat} (hr : r < rs.length) : txt rs r (rg rs r).length = planText (rs.take (r + 1)) := by
  have e : rs.take (r + 1) = rs.take r ++ [rg rs r] := by rw [List.take_add_one, rg_get hr]; rfl
  unfold txt
  rw [e, planText_app, List.take_length]
  simp [planText, planLines, lns, unl]
theorem unl_len {l : List Sd} (h : ∀ s ∈ l, rgd s = true) : ∀ i, i ≤ l.length → (unl ((l.take i).map lineOf)).length ≤ 201 * i
  | 0, _ => by simp [unl]
  | i + 1, hi => by
    have ih := unl_len h i (by omega)
    have e : l.take (i + 1) = l.take i ++ [sd l i] := by rw [List.take_add_one, sd_get (by omega)]; rfl
    have hl := (okSd_of (h _ (List.mem_of_getElem? (sd_get (show i < l.length by omega))))).2
    rw [e, List.map_append, unl_app, List.map_cons, List.map_nil, unl_cons, List.length_append, List.length_append, List.length_cons]
    simp only [unl, List.map_nil, List.flatten_nil, List.length_nil] at ih ⊢
    omega
theorem txt_len {rs : List (List Sd)} (h : ∀ l ∈ rs, ∀ s ∈ l, rgd s = true) : ∀ r, r ≤ rs.length → (planText (rs.take r)).length ≤ 5 * r + 201 * tot (rs.take r) ∧ (r < rs.length → ∀ i, i ≤ (rg rs r).length → (txt rs r i).length ≤ 5 * (r + 1) + 201 * (tot (rs.take r) + i))
  | r, hr => by
    have hp : (planText (rs.take r)).length ≤ 5 * r + 201 * tot (rs.take r) := by
      cases r with
      | zero => simp [planText, planLines, unl]
      | succ r =>
        have ih := (txt_len h r (by omega)).2 (by omega) _ (Nat.le_refl _)
        rw [txt_all (by omega)] at ih
        rw [tot_take_succ (show r < rs.length by omega)]
        exact ih
    refine ⟨hp, fun hlt i hi => ?_⟩
    have hu := unl_len (h _ (List.mem_of_getElem? (rg_get hlt))) i hi
    unfold txt
    rw [List.length_append, List.length_append]
    have : (ringW ++ [10]).length = 5 := rfl
    omega
theorem take_tot {rs : List (List Sd)} (h : ∀ l ∈ rs, l ≠ []) : ∀ r, r ≤ rs.length → r ≤ tot (rs.take r)
  | 0, _ => Nat.zero_le _
  | r + 1, hr => by
    have ih := take_tot h r (by omega)
    have := List.length_pos_iff.2 (h _ (List.mem_of_getElem? (rg_get (show r < rs.length by omega))))
    rw [tot_take_succ (show r < rs.length by omega)]
    omega
/-- The words ahead of the last two. -/
def midW (s : Sd) : List (List UInt8) := if s.gable then [itoa s.x, itoa s.y, gableW] else [itoa s.x, itoa s.y, itoa s.rise, itoa s.run]

theorem midW_all (s : Sd) : midW s ++ [itoa s.plate, itoa s.over] = wordsOf s := by
  unfold midW wordsOf
  split <;> rfl
theorem join_gives {W0 W : World} {bxs : List Bx} (hp : Hp W0 bxs W) (k : Nat) {g cap : Nat} {junk : List Value} {ws : List (List UInt8)} (hk : nth bxs k = some ⟨g, 9, ss ws ++ junk, true, none⟩) (hcap : ws.length ≤ cap) (hn : ws.length ≤ 1000) (hl : (join ws [32]).length ≤ 1000000) :
    CallsR Tryz.prog 79 #[.slice (some ⟨g, 0, none⟩) ws.length cap, str [32]] W (fun _ : Unit => str (join ws [32])) (fun _ => True) (fun _ => []) := by
  have hm : (ws.map fun l => (⟨l.toArray⟩ : ByteArray)).map (·.data.toList) = ws := by
    rw [List.map_map]
    conv => rhs; rw [← List.map_id ws]
    exact List.map_congr_left fun l _ => rfl
  have hat := RowAt.of_bx hp k hk rfl
  have h := Tryz.strings_Join g 0 cap (ws.map fun l => (⟨l.toArray⟩ : ByteArray)) ⟨#[32]⟩ W (fun j x hx => by
    rw [List.getElem?_map] at hx
    cases hw : ws[j]? with
    | none => rw [hw] at hx; cases hx
    | some l =>
      rw [hw] at hx
      injection hx with hx
      have := hat.get j (str l) (by
        show (ss ws ++ junk)[j]? = some (str l)
        rw [List.getElem?_append_left (by rw [List.length_map]; exact (List.getElem?_eq_some_iff.1 hw).1), List.getElem?_map, hw]; rfl)
      rw [← hx]
      exact this) hat.lt (by rw [List.length_map]; omega) (by rw [List.length_map]; exact hcap) (by rw [hm]; show (join ws [32]).length ≤ _; omega)
  rw [hm, List.length_map] at h
  refine CallsR.of1 (h.mono ?_)
  rintro e w' ⟨rfl, hb⟩
  exact ⟨rfl, hb⟩
set_option maxHeartbeats 8000000 in
theorem print_ok (W : World) (p : Option Addr) (cap : Nat) (rs : List (List Sd)) (hn : rs.length < 4611686018427387904) (hR : RingsP W p rs) (hc : chk rs = 0) (ht : TabP W) :
    CallsR Tryz.prog 33 #[planV p rs.length cap] W (fun _ : Unit => .tuple #[str (planText rs), .int .i64 0]) (fun _ => True) (fun _ => []) := by
  obtain ⟨hne, hT, _⟩ := chk_ne hc
  obtain ⟨hrg, _⟩ := chk_parts hc
  have hl : ∀ l ∈ rs, l.length < 4611686018427387904 := fun l h => by have := len_le_tot h; omega
  have hrt := take_tot hne
  refine calls_enter (args := [planV p rs.length cap]) Tryz.func33 rfl rfl rfl ?_
  refine zA ?_
  refine zB ?_
  (refine wl_box rfl rfl rfl rfl ?_; intro)
  refine wl_pure Tryz.hT rfl rfl rfl ?_
  refine wl_pure Tryz.hT rfl rfl rfl ?_
  refine wl_nil ?_
  rename_i b1
  refine zE ?_
  refine zA ?_
  refine zA ?_
  refine zB ?_
  refine wl_loadBx 0 Tryz.hT rfl rfl rfl rfl rfl rfl rfl rfl ?_
  refine wl_call1 rfl rfl rfl rfl rfl rfl (by kernel_rfl) (fun W hp => (check_gives W p cap rs hn (by omega) (hR.hp hp)).cast (by rw [hc])) ?_
  refine wl_pure Tryz.hT rfl rfl rfl ?_
  refine wl_nil ?_
  refine zE ?_
  refine zS rfl ?_
  refine zI ?_
  refine zE ?_
  refine zA ?_
  refine zB ?_
  (refine wl_allocZ Tryz.hZ rfl rfl rfl rfl ?_; intro)
  refine wl_nil ?_
  rename_i b4
  refine zE ?_
  refine zA ?_
  refine zA ?_
  refine zB ?_
  refine wl_pure Tryz.hT rfl rfl rfl ?_
  refine wl_loadBx 0 Tryz.hT rfl rfl rfl rfl rfl rfl rfl rfl ?_
  refine wl_pure Tryz.hT rfl rfl rfl ?_
  refine wl_pure Tryz.hT rfl rfl rfl ?_
  refine wl_nil ?_
  refine zE ?_
  refine zH ?_
  refine wc_newGone ?_
  refine wc_loopA (X := Nat × Vec × Value) (fun x => [(4, selfP b4), (14, slv p rs.length cap), (15, .int .i64 (rs.length : Nat)), (16, .int .i64 (x.1 : Nat))]) (fun x => Hp W [bldB b4 x.2.2 (x.2.1.val (planText (rs.take x.1)).length), x.2.1.bx 5 (bc (planText (rs.take x.1)))])
    (fun x => x.1 ≤ rs.length ∧ x.2.1.OK 1 (planText (rs.take x.1)).length (bc (planText (rs.take x.1))) ∧ (x.2.2 = .pointer none ∨ x.2.2 = selfP b4)) (fun x => rs.length - x.1) (0, Vec.empty, .pointer none) ⟨Nat.zero_le _, Vec.OK.empty 1, .inl rfl⟩ ⟨rfl, rfl, rfl, rfl, trivial⟩ (fun W1 hp => hp.pick [1, 2] (by decide) rfl) ?_
  rintro ⟨r, V, pv⟩ ⟨hr, hV, hpv⟩
  change r ≤ rs.length at hr
  change V.OK 1 (planText (rs.take r)).length (bc (planText (rs.take r))) at hV
  change pv = .pointer none ∨ pv = selfP b4 at hpv
  refine zA ?_
  refine zB ?_
  refine wl_pure Tryz.hT rfl rfl rfl ?_
  refine wl_nil ?_
  refine zE ?_
  refine zA ?_
  refine wc_cond rfl (fun h => ?_) (fun h => ?_)
  rotate_left
  · have e : r = rs.length := by have h' : decide ((r : Int) < (rs.length : Nat)) = false := h; rw [decide_eq_false_iff_not] at h'; omega
    subst e
    rw [List.take_length] at hV
    refine zJ ?_
    refine zK ?_
    refine zK ?_
    refine zL ?_
    refine zE ?_
    refine zA ?_
    refine zB ?_
    refine wl_callF (X := Unit) (val := fun _ => str (planText rs)) (Φ := fun _ => True) (capt := []) (vs := [selfP b4]) (fun _ => []) rfl rfl rfl rfl rfl rfl (by kernel_rfl) (fun W1 hp => string_gives hpv (by rw [List.take_length] at hp; exact hp) hV) ?_
    intro _ _
    refine wl_pure Tryz.hT rfl rfl rfl ?_
    refine wl_pure Tryz.hT rfl rfl rfl ?_
    refine wl_nil ?_
    refine zE ?_
    refine zO ?_
    exact ne_ret2 Tryz.hT rfl (.tmp rfl) (.tmp rfl) () rfl trivial fun W _ => NewBx.nil _ _
  have hr : r < rs.length := by have h' : decide ((r : Int) < (rs.length : Nat)) = true := h; rw [decide_eq_true_iff] at h'; omega
  clear h
  obtain ⟨b, off, rfl, hrow⟩ := hR.row hr
  obtain ⟨q, cap2, hq1, hq2⟩ := hrow r hr
  have t1 := tot_take_succ hr
  have t2 := tot_take_le rs (r + 1)
  have hlr := len_le_tot (List.mem_of_getElem? (rg_get hr))
  have hpl := (txt_len hrg r (by omega)).1
  have htl := (txt_len hrg r (by omega)).2 hr
  have hr1 := hrt r (by omega)
  refine zI ?_
  refine zE ?_
  refine zA ?_
  refine zH ?_
  refine zA ?_
  refine zB ?_
  refine wl_indexAddr Tryz.hT rfl rfl rfl rfl rfl rfl rfl (by omega) (by omega) ?_
  refine wl_load rfl rfl rfl rfl (fun W hp => RowAt.load 0 Tryz.hT rfl ((fun W hp => hq1.hp hp) W hp) rfl) ?_
  refine wl_pure Tryz.hT rfl rfl rfl ?_
  refine wl_nil ?_
  refine zE ?_
  refine zA ?_
  refine zB ?_
  refine wl_callF (X := Vec) (val := fun _ => .tuple #[.int .i64 (rl.length : Nat), .nilIface]) (Φ := fun x => x.OK 1 (planText (rs.take r) ++ rl).length (bc (planText (rs.take r) ++ rl))) (capt := []) (vs := [selfP b4, str rl]) (fun x => [bldB b4 (selfP b4) (x.val (planText (rs.take r) ++ rl).length), x.bx 5 (bc (planText (rs.take r) ++ rl))])
    rfl rfl rfl rfl rfl rfl (by kernel_rfl) (fun W1 hp => write_gives (W0 := W) (b := b4) (p := pv) (V := V) (l := planText (rs.take r)) rl hpv hp hV (by have : rl.length = 5 := rfl; omega)) ?_
  rw [← txt_zero]
  intro V2 hV2
  refine wl_nil ?_
  refine zE ?_
  refine zA ?_
  refine zB ?_
  refine wl_pure Tryz.hT rfl rfl rfl ?_
  refine wl_pure Tryz.hT rfl rfl rfl ?_
  refine wl_pure Tryz.hT rfl rfl rfl ?_
  refine wl_nil ?_
  refine zE ?_
  refine zH ?_
  refine wc_loop (X := Nat × Vec) (fun x => [(4, selfP b4), (14, slv (some ⟨b, off, none⟩) rs.length cap), (15, .int .i64 (rs.length : Nat)), (16, .int .i64 (r : Nat)), (21, slv q (rg rs r).length cap2), (22, .int .i64 ((rg rs r).length : Nat)), (23, .int .i64 (x.1 : Nat))]) (fun x => [bldB b4 (selfP b4) (x.2.val (txt rs r x.1).length), x.2.bx 5 (bc (txt rs r x.1))])
    (fun x => x.1 ≤ (rg rs r).length ∧ x.2.OK 1 (txt rs r x.1).length (bc (txt rs r x.1))) (fun x => (rg rs r).length - x.1) (0, V2) ⟨Nat.zero_le _, hV2⟩ ⟨rfl, rfl, rfl, rfl, rfl, rfl, rfl, trivial⟩ [] rfl ?_
  rintro ⟨i, V3⟩ ⟨hi, hV3⟩
  change i ≤ (rg rs r).length at hi
  change V3.OK 1 (txt rs r i).length (bc (txt rs r i)) at hV3
  refine zA ?_
  refine zB ?_
  refine wl_pure Tryz.hT rfl rfl rfl ?_
  refine wl_nil ?_
  refine zE ?_
  refine zA ?_
  refine wc_cond rfl (fun h => ?_) (fun h => ?_)
  rotate_left
  · have e : i = (rg rs r).length := by have h' : decide ((i : Int) < ((rg rs r).length : Nat)) = false := h; rw [decide_eq_false_iff_not] at h'; omega
    subst e
    rw [txt_all hr] at hV3 ⊢
    refine zJ ?_
    refine zK ?_
    refine zK ?_
    refine zL ?_
    refine zN ?_
    refine zE ?_
    refine zB ?_
    refine wl_pure Tryz.hT rfl rfl rfl ?_
    refine wl_pure Tryz.hT rfl rfl rfl ?_
    refine wl_nil ?_
    exact ne_loopA (r + 1, V3, selfP b4) ⟨hr, hV3, .inr rfl⟩ (by show rs.length - (r + 1) < rs.length - r; omega) ⟨rfl, rfl, rfl, congrArg (fun z => some (Value.int .i64 z)) (wrap_id (x := (r : Int) + 1) (by omega) (by omega)), trivial⟩ (fun W1 hp => hp)
  have hi : i < (rg rs r).length := by have h' : decide ((i : Int) < ((rg rs r).length : Nat)) = true := h; rw [decide_eq_true_iff] at h'; omega
  clear h
  obtain ⟨bq, oq, rfl, hrq⟩ := hq2.row hi
  obtain ⟨hok, hll⟩ := okSd_of (hrg _ (List.mem_of_getElem? (rg_get hr)) _ (List.mem_of_getElem? (sd_get hi)))
  have hti := htl i (by omega)
  have hts := txt_succ hi
  have b64 : ∀ n : Int, okI n → -9223372036854775808 ≤ n ∧ n ≤ 9223372036854775807 := fun n h => by
    have hb : n.toNat < 10 ^ 9 := dd_long 9 _ (by have h9 := h.2; unfold itoa at h9; rwa [if_neg (by have := h.1; omega)] at h9)
    have := h.1
    omega
  refine zI ?_
  refine zE ?_
  refine zA ?_
  refine zH ?_
  refine zA ?_
  refine zB ?_
  refine wl_indexAddr Tryz.hT rfl rfl rfl rfl rfl rfl rfl (by omega) (by omega) ?_
  refine wl_load rfl rfl rfl rfl (fun W hp => RowAt.load 0 Tryz.hT rfl ((fun W hp => (hrq i hi).hp hp) W hp) rfl) ?_
  (refine wl_allocZ Tryz.hZ rfl rfl rfl rfl ?_; intro)
  refine wl_storeBx 2 Tryz.hT rfl rfl rfl rfl rfl rfl rfl rfl rfl rfl rfl ?_
  refine wl_nil ?_
  rename_i b8
  generalize hsd : sd (rg rs r) i = s at *
  refine zE ?_
  refine zA ?_
  refine zT Tryz.mixed (by kernel_rfl) ?_
  refine wq_pure Tryz.hT rfl rfl rfl ?_
  refine wq_loadBx 2 Tryz.hT rfl rfl rfl rfl rfl rfl rfl rfl ?_
  refine wq_call1 rfl rfl rfl rfl rfl rfl (by kernel_rfl) (fun W hp => itoa_gives s.x (b64 _ hok.1).1 (b64 _ hok.1).2 W (ht.hp hp)) ?_
  refine wq_pure Tryz.hT rfl rfl rfl ?_
  refine wq_loadBx 2 Tryz.hT rfl rfl rfl rfl rfl rfl rfl rfl ?_
  refine wq_call1 rfl rfl rfl rfl rfl rfl (by kernel_rfl) (fun W hp => itoa_gives s.y (b64 _ hok.2.1).1 (b64 _ hok.2.1).2 W (ht.hp hp)) ?_
  refine wq_nil ?_
  (refine wl_buildRowZ Tryz.hZ Tryz.hT rfl rfl rfl rfl rfl rfl rfl rfl rfl rfl rfl ?_; intro)
  refine wl_pure Tryz.hT rfl rfl rfl ?_
  refine wl_nil ?_
  rename_i b33
  refine ne_then ?_
  refine wc_cut (X := Vec) (fun x => [(4, selfP b4), (8, .pointer (some ⟨b8, 0, none⟩)), (9, x.val (midW s).length), (14, slv (some ⟨b, off, none⟩) rs.length cap), (15, .int .i64 (rs.length : Nat)), (16, .int .i64 (r : Nat)), (21, slv (some ⟨bq, oq, none⟩) (rg rs r).length cap2), (22, .int .i64 ((rg rs r).length : Nat)), (23, .int .i64 (i : Nat))]) (fun x => [bldB b4 (selfP b4) (V3.val (txt rs r i).length), V3.bx 5 (bc (txt rs r i)), ⟨b8, 42, s.cells, true, none⟩, x.bx 9 (ss (midW s))])
    (fun x => x.OK 1 (midW s).length (ss (midW s))) ?_ ?_
  · refine zA ?_
    refine zB ?_
    refine wl_pure Tryz.hT rfl rfl rfl ?_
    refine wl_loadBx 2 Tryz.hT rfl rfl rfl rfl rfl rfl rfl rfl ?_
    refine wl_nil ?_
    refine zE ?_
    refine wc_cond rfl (fun hg => ?_) (fun hg => ?_)
    · have hg : s.gable = true := hg
      have hm : midW s = [itoa s.x, itoa s.y, gableW] := by unfold midW; rw [if_pos hg]
      refine zB ?_
      refine wl_pure Tryz.hT rfl rfl rfl ?_
      (refine wl_buildRowZ Tryz.hZ Tryz.hT rfl rfl rfl rfl rfl rfl rfl rfl rfl rfl rfl ?_; intro)
      refine wl_appendTo (V := ⟨some b33, 2, []⟩) (len := 2) (xs := ss [itoa s.x, itoa s.y]) 3 4 Tryz.vec100 (midW s).length (ss (midW s)) rfl rfl rfl rfl rfl rfl rfl rfl rfl rfl rfl ⟨rfl, fun h => (by cases h), fun _ => ⟨Nat.le_refl _, by simp only [maxLen]; omega, rfl⟩⟩ rfl rfl (by rw [hm]; rfl) (by rw [hm]; rfl) (by rw [hm]; simp only [maxLen, List.length_cons, List.length_nil]; omega) (by rw [hm]; simp only [List.length_cons, List.length_nil]; omega) rfl ?_
      intro g c1 j1 hV4
      refine wl_pure Tryz.hT rfl rfl rfl ?_
      refine wl_nil ?_
      exact ne_cutP ⟨some g, c1, j1⟩ hV4 ⟨rfl, rfl, rfl, rfl, rfl, rfl, rfl, rfl, rfl, trivial⟩ [0, 1, 2, 3] (by decide) rfl
    · have hg : s.gable = false := hg
      have hm : midW s = [itoa s.x, itoa s.y, itoa s.rise, itoa s.run] := by unfold midW; rw [if_neg (by rw [hg]; decide)]
      obtain ⟨o1, o2⟩ := hok.2.2.2.1 hg
      refine wc_lateY (X := { x : Vec // x.OK 1 (midW s).length (ss (midW s)) }) [true, true, true, true, true, true, true, false, false, false] (fun x => [(4, selfP b4), (8, .pointer (some ⟨b8, 0, none⟩)), (9, x.1.val (midW s).length), (14, slv (some ⟨b, off, none⟩) rs.length cap), (15, .int .i64 (rs.length : Nat)), (16, .int .i64 (r : Nat)), (21, slv (some ⟨bq, oq, none⟩) (rg rs r).length cap2), (22, .int .i64 ((rg rs r).length : Nat)), (23, .int .i64 (i : Nat))]) (fun x => [bldB b4 (selfP b4) (V3.val (txt rs r i).length), V3.bx 5 (bc (txt rs r i)), ⟨b8, 42, s.cells, true, none⟩, x.1.bx 9 (ss (midW s))])
        3 [bldB b4 (selfP b4) (V3.val (txt rs r i).length), V3.bx 5 (bc (txt rs r i)), ⟨b8, 42, s.cells, true, none⟩, ⟨b33, 9, ss [itoa s.x, itoa s.y], true, none⟩] Tryz.mixed (by kernel_rfl) ?_ ?_
      · refine wq_pure Tryz.hT rfl rfl rfl ?_
        refine wq_pure Tryz.hT rfl rfl rfl ?_
        refine wq_loadBx 2 Tryz.hT rfl rfl rfl rfl rfl rfl rfl rfl ?_
        refine wq_call1 rfl rfl rfl rfl rfl rfl (by kernel_rfl) (fun W hp => itoa_gives s.rise (b64 _ o1).1 (b64 _ o1).2 W (ht.hp hp)) ?_
        refine wq_pure Tryz.hT rfl rfl rfl ?_
        refine wq_loadBx 2 Tryz.hT rfl rfl rfl rfl rfl rfl rfl rfl ?_
        refine wq_call1 rfl rfl rfl rfl rfl rfl (by kernel_rfl) (fun W hp => itoa_gives s.run (b64 _ o2).1 (b64 _ o2).2 W (ht.hp hp)) ?_
        refine wq_wt ?_
        refine wt_step rfl rfl (by ((repeat (first | refine Weak.same ?_ | refine Weak.off rfl ?_)); exact trivial)) ?_
        refine RS.cons ?_ (RS.nil)
        (refine wl_buildRowZ Tryz.hZ Tryz.hT rfl rfl rfl rfl rfl rfl rfl rfl rfl rfl rfl ?_; intro)
        refine wl_nil ?_
        refine ne_wt ?_
        refine wt_step rfl rfl (by ((repeat (first | refine Weak.same ?_ | refine Weak.off rfl ?_)); exact trivial)) ?_
        refine RS.cons ?_ (RS.nil)
        refine wl_appendTo (V := ⟨some b33, 2, []⟩) (len := 2) (xs := ss [itoa s.x, itoa s.y]) 3 4 Tryz.vec100 (midW s).length (ss (midW s)) rfl rfl rfl rfl rfl rfl rfl rfl rfl rfl rfl ⟨rfl, fun h => (by cases h), fun _ => ⟨Nat.le_refl _, by simp only [maxLen]; omega, rfl⟩⟩ rfl rfl (by rw [hm]; rfl) (by rw [hm]; rfl) (by rw [hm]; simp only [maxLen, List.length_cons, List.length_nil]; omega) (by rw [hm]; simp only [List.length_cons, List.length_nil]; omega) rfl ?_; intro g c1 j1 hV4
        refine wl_nil ?_
        refine ne_wt ?_
        refine wt_stepF rfl rfl (by kernel_rfl) ?_
        refine RS.cons ?_ (RS.nil)
        refine wl_pure Tryz.hT rfl rfl rfl ?_
        refine wl_nil ?_
        refine ne_wt ?_
        refine wt_doneF rfl (by kernel_rfl) ?_
        exact ne_late ⟨⟨some g, c1, j1⟩, hV4⟩ ⟨rfl, rfl, rfl, rfl, rfl, rfl, rfl, rfl, rfl, trivial⟩ [0, 1, 2, 3] (by decide) rfl
      rintro ⟨V4, hV4⟩
      exact ne_cutP V4 hV4 ⟨rfl, rfl, rfl, rfl, rfl, rfl, rfl, rfl, rfl, trivial⟩ [0, 1, 2, 3] (by decide) rfl
  intro V4 hV4
  have hml : (midW s).length ≤ 4 := by unfold midW; split <;> simp
  have hwl : (wordsOf s).length = (midW s).length + 2 := by rw [← midW_all, List.length_append]; rfl
  repeat refine wc_seq ?_
  refine wc_lateY (X := { x : Nat × Nat × List Value // (⟨some x.1, x.2.1, x.2.2⟩ : Vec).OK 1 (wordsOf s).length (ss (wordsOf s)) }) [true, true, true, true, true, true, true, false, false, false] (fun x => [(4, selfP b4), (8, .pointer (some ⟨b8, 0, none⟩)), (9, .slice (some ⟨x.1.1, 0, none⟩) (wordsOf s).length x.1.2.1), (14, slv (some ⟨b, off, none⟩) rs.length cap), (15, .int .i64 (rs.length : Nat)), (16, .int .i64 (r : Nat)), (21, slv (some ⟨bq, oq, none⟩) (rg rs r).length cap2), (22, .int .i64 ((rg rs r).length : Nat)), (23, .int .i64 (i : Nat))]) (fun x => [bldB b4 (selfP b4) (V3.val (txt rs r i).length), V3.bx 5 (bc (txt rs r i)), ⟨b8, 42, s.cells, true, none⟩, ⟨x.1.1, 9, ss (wordsOf s) ++ x.1.2.2, true, none⟩])
    3 [bldB b4 (selfP b4) (V3.val (txt rs r i).length), V3.bx 5 (bc (txt rs r i)), ⟨b8, 42, s.cells, true, none⟩, V4.bx 9 (ss (midW s))] Tryz.mixed (by kernel_rfl) ?_ ?_
  · refine wq_pure Tryz.hT rfl rfl rfl ?_
    refine wq_pure Tryz.hT rfl rfl rfl ?_
    refine wq_loadBx 2 Tryz.hT rfl rfl rfl rfl rfl rfl rfl rfl ?_
    refine wq_call1 rfl rfl rfl rfl rfl rfl (by kernel_rfl) (fun W hp => itoa_gives s.plate (b64 _ hok.2.2.2.2.1).1 (b64 _ hok.2.2.2.2.1).2 W (ht.hp hp)) ?_
    refine wq_pure Tryz.hT rfl rfl rfl ?_
    refine wq_loadBx 2 Tryz.hT rfl rfl rfl rfl rfl rfl rfl rfl ?_
    refine wq_call1 rfl rfl rfl rfl rfl rfl (by kernel_rfl) (fun W hp => itoa_gives s.over (b64 _ hok.2.2.2.2.2).1 (b64 _ hok.2.2.2.2.2).2 W (ht.hp hp)) ?_
    refine wq_wt ?_
    refine wt_step rfl rfl (by ((repeat (first | refine Weak.same ?_ | refine Weak.off rfl ?_)); exact trivial)) ?_
    refine RS.cons ?_ (RS.nil)
    (refine wl_buildRowZ Tryz.hZ Tryz.hT rfl rfl rfl rfl rfl rfl rfl rfl rfl rfl rfl ?_; intro)
    refine wl_nil ?_
    refine ne_wt ?_
    refine wt_step rfl rfl (by ((repeat (first | refine Weak.same ?_ | refine Weak.off rfl ?_)); exact trivial)) ?_
    refine RS.cons ?_ (RS.nil)
    refine wl_appendTo (V := V4) (len := (midW s).length) (xs := ss (midW s)) 3 4 Tryz.vec100 (wordsOf s).length (ss (wordsOf s)) rfl rfl rfl rfl rfl rfl rfl rfl rfl rfl rfl hV4 rfl rfl hwl.symm (by show ss (midW s) ++ ss [itoa s.plate, itoa s.over] = _; rw [← midW_all]; exact List.map_append.symm) (by simp only [maxLen]; omega) (by omega) rfl ?_; intro g c1 j1 hV5
    refine wl_nil ?_
    refine ne_wt ?_
    refine wt_stepF rfl rfl (by kernel_rfl) ?_
    refine RS.cons ?_ (RS.nil)
    refine wl_pure Tryz.hT rfl rfl rfl ?_
    refine wl_nil ?_
    refine ne_wt ?_
    refine wt_doneF rfl (by kernel_rfl) ?_
    exact ne_late ⟨(g, c1, j1), hV5⟩ ⟨rfl, rfl, rfl, rfl, rfl, rfl, rfl, rfl, rfl, trivial⟩ [0, 1, 2, 3] (by decide) rfl
  rintro ⟨⟨g, c1, j1⟩, hV5⟩
  change (⟨some g, c1, j1⟩ : Vec).OK 1 (wordsOf s).length (ss (wordsOf s)) at hV5
  have hc1 : (wordsOf s).length ≤ c1 := (hV5.cap (by simp)).1
  refine zE ?_
  refine zA ?_
  refine zB ?_
  refine wl_pure Tryz.hT rfl rfl rfl ?_
  refine wl_call1 rfl rfl rfl rfl rfl rfl (by kernel_rfl) (fun W hp => join_gives hp 3 (g := g) (cap := c1) (junk := j1) (ws := wordsOf s) rfl hc1 (by omega) (by have : (join (wordsOf s) [32]).length ≤ 200 := hll; omega)) ?_
  refine wl_callF (X := Vec) (val := fun _ => .tuple #[.int .i64 ((lineOf s).length : Nat), .nilIface]) (Φ := fun x => x.OK 1 (txt rs r i ++ lineOf s).length (bc (txt rs r i ++ lineOf s))) (capt := []) (vs := [selfP b4, str (lineOf s)]) (fun x => [bldB b4 (selfP b4) (x.val (txt rs r i ++ lineOf s).length), x.bx 5 (bc (txt rs r i ++ lineOf s))])
    rfl rfl rfl rfl rfl rfl (by kernel_rfl) (fun W1 hp => write_gives (W0 := W) (b := b4) (p := selfP b4) (V := V3) (l := txt rs r i) (lineOf s) (.inr rfl) (hp.pick [0, 1] (by decide) rfl) hV3 (by omega)) ?_
  intro V6 hV6
  refine wl_nil ?_
  refine zE ?_
  refine zB ?_
  refine wl_callF (X := Vec) (val := fun _ => .nilIface) (Φ := fun x => x.OK 1 (txt rs r (i + 1)).length (bc (txt rs r (i + 1)))) (capt := []) (vs := [selfP b4, .int .u8 10]) (fun x => [bldB b4 (selfP b4) (x.val (txt rs r (i + 1)).length), x.bx 5 (bc (txt rs r (i + 1)))])
    rfl rfl rfl rfl rfl rfl (by kernel_rfl) (fun W1 hp => by rw [hts]; exact byte_gives (W0 := W) (b := b4) (p := selfP b4) (V := V6) (l := txt rs r i ++ lineOf s) 10 (.inr rfl) hp hV6 (by rw [List.length_append]; omega)) ?_
  intro V7 hV7
  refine wl_nil ?_
  refine zN ?_
  refine zE ?_
  refine zB ?_
  refine wl_pure Tryz.hT rfl rfl rfl ?_
  refine wl_pure Tryz.hT rfl rfl rfl ?_
  refine wl_nil ?_
  exact ne_loop (i + 1, V7) ⟨hi, hV7⟩ (by show (rg rs r).length - (i + 1) < (rg rs r).length - i; omega) ⟨rfl, rfl, rfl, rfl, rfl, rfl, congrArg (fun z => some (Value.int .i64 z)) (wrap_id (x := (i : Int) + 1) (by omega) (by omega)), trivial⟩ [] rfl
theorem print_no (W : World) (p : Option Addr) (cap : Nat) (rs : List (List Sd)) (hn : rs.length < 4611686018427387904) (hT : tot rs < 1099511627776) (hR : RingsP W p rs) (hc : chk rs ≠ 0) :
    CallsR Tryz.prog 33 #[planV p rs.length cap] W (fun _ : Unit => .tuple #[str [], .int .i64 1]) (fun _ => True) (fun _ => []) := by
  refine calls_enter (args := [planV p rs.length cap]) Tryz.func33 rfl rfl rfl ?_
  refine zA ?_
  refine zB ?_
  (refine wl_box rfl rfl rfl rfl ?_; intro)
  refine wl_pure Tryz.hT rfl rfl rfl ?_
  refine wl_pure Tryz.hT rfl rfl rfl ?_
  refine wl_nil ?_
  refine zE ?_
  refine zA ?_
  refine zA ?_
  refine zB ?_
  refine wl_loadBx 0 Tryz.hT rfl rfl rfl rfl rfl rfl rfl rfl ?_
  refine wl_call1 rfl rfl rfl rfl rfl rfl (by kernel_rfl) (fun W hp => check_gives W p cap rs hn hT (hR.hp hp)) ?_
  refine wl_pure Tryz.hT rfl rfl rfl ?_
  refine wl_nil ?_
  refine zE ?_
  refine wc_cond rfl (fun h => ?_) (fun h => ?_)
  · refine zA ?_
    refine zB ?_
    refine wl_pure Tryz.hT rfl rfl rfl ?_
    refine wl_pure Tryz.hT rfl rfl rfl ?_
    refine wl_nil ?_
    refine zE ?_
    refine zO ?_
    refine zP ?_
    exact ne_ret2 Tryz.hT rfl (.tmp rfl) (.tmp rfl) () rfl trivial fun W _ => NewBx.nil _ _
  · exact absurd (by have h' : (chk rs != 0) = false := h; simpa using h') hc
end Go.Proofs.YtnpfkmbcejgnjaaGreatDoor
