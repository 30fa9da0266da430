/-
  Plans with other corners: slices.Clone, moved, bounded, Shift.
-/
import Derived.Test.YtnpfkmbcejgnjaaGreatDoorGreat
import Derived.Test.YtnpfkmbcejgnjaaGreatDoorAo
namespace Go.Proofs.YtnpfkmbcejgnjaaGreatDoor
open Go Go.RowKit Go.Am
set_option maxRecDepth 10000
-- BOXES 8
theorem clone_gives (W : World) (p : Option Addr) (cap : Nat) (l : List Sd) (hn : l.length < 1099511627776) (hR : RingP W p l) (hne : l ≠ []) :
    CallsR Tryz.prog 30 #[slv p l.length cap] W (fun V : Vec => V.val l.length) (fun V => V.OK 7 l.length (cellsOf l) ∧ V.p ≠ none) (fun V => [V.bx 42 (cellsOf l)]) := by
  obtain ⟨b, off, rfl, hRl⟩ : ∃ b off, p = some ⟨b, off, none⟩ ∧ RingAt W b off l := by
    rcases hR with h | h
    · exact absurd h hne
    · exact h
  refine calls_enter (args := [slv (some ⟨b, off, none⟩) l.length cap]) Tryz.func30 rfl rfl rfl ?_
  refine zA ?_
  refine zB ?_
  refine wl_pure Tryz.hT rfl rfl rfl ?_
  refine wl_nil ?_
  refine zE ?_
  refine zA ?_
  refine zA ?_
  refine zB ?_
  refine wl_pure Tryz.hT rfl rfl rfl ?_
  refine wl_nilEq Tryz.hT rfl rfl rfl rfl rfl rfl rfl ?_
  refine zC ?_
  refine zE ?_
  refine zS rfl ?_
  refine zI ?_
  refine zE ?_
  refine zA ?_
  refine zB ?_
  refine wl_buildEmpty Tryz.hT rfl rfl rfl rfl rfl ?_
  intro g
  refine wl_pure Tryz.hT rfl rfl rfl ?_
  refine wl_append (len := 0) (V := ⟨some g, 0, []⟩) (xs := []) 0 Tryz.vec27 rfl rfl rfl rfl rfl rfl rfl rfl rfl ⟨rfl, (fun h => by cases h), fun _ => ⟨Nat.le_refl _, Nat.zero_le _, rfl⟩⟩ (cellsOf_length l) (fun W hp j u hj => ?_) (cellsOf_one _) (by simp only [maxLen]; omega) (by omega) ?_
  · have hR' := RingP.hp (.inr ⟨b, off, rfl, hRl⟩) hp
    rcases hR' with h | ⟨b3, off3, e, hR'⟩
    · exact absurd h hne
    · cases e
      rw [Addr.add_none]
      exact hR'.cells j u hj
  intro V hV hp0
  refine wl_pure Tryz.hT rfl rfl rfl ?_
  refine wl_nil ?_
  refine zE ?_
  refine zO ?_
  have e0 : 0 + l.length = l.length := Nat.zero_add _
  rw [e0, List.nil_append] at hV
  exact ne_ret1 Tryz.hT rfl (.tmp rfl) V (by rw [e0]) ⟨hV, fun h => hne (List.length_eq_zero_iff.1 (hp0 h))⟩ fun W hp => NewBx.of_hp1 hp 0 rfl
/-- Rings that a function has made: each with its own block. -/
abbrev Made := List (Vec × List Sd)
def rowCells (mk : Made) : List Value := mk.map fun p => p.1.val p.2.length
def mkB (mk : Made) : Bx := grpB (mk.reverse.flatMap fun p => (p.1.bx 42 (cellsOf p.2)).blk)
structure MadeOK (mk : Made) (rs : List (List Sd)) : Prop where
  eq : mk.map (·.2) = rs
  ok : ∀ p ∈ mk, p.1.OK 7 p.2.length (cellsOf p.2)
theorem mkB_snoc (mk : Made) (U : Vec) (l : List Sd) : (mkB (mk ++ [(U, l)])).blk = (U.bx 42 (cellsOf l)).blk ++ (mkB mk).blk := by
  show ((mk ++ [(U, l)]).reverse.flatMap _) = _ ++ (mk.reverse.flatMap _)
  rw [List.reverse_append]
  simp
theorem MadeOK.snoc {mk : Made} {rs : List (List Sd)} {U : Vec} {l : List Sd} (h : MadeOK mk rs) (hU : U.OK 7 l.length (cellsOf l)) : MadeOK (mk ++ [(U, l)]) (rs ++ [l]) := by
  refine ⟨by rw [List.map_append, h.eq]; rfl, fun p hp => ?_⟩
  rcases List.mem_append.1 hp with hp | hp
  · exact h.ok p hp
  · obtain rfl := List.mem_singleton.1 hp; exact hU
theorem rowCells_snoc (mk : Made) (U : Vec) (l : List Sd) : rowCells (mk ++ [(U, l)]) = rowCells mk ++ [U.val l.length] := by simp [rowCells]
/-- What lies in a group's block is known. -/
theorem RowAt.of_grp {W0 W : World} {bxs : List Bx} (hp : Hp W0 bxs W) (k : Nat) {l : List (Nat × Obj)} (hk : nth bxs k = some (grpB l)) {g : Nat} {c : List Value} {ty : TypeId} (hm : (g, Obj.cells c.toArray ty (0, 0)) ∈ l) : RowAt W g 0 c := by
  rw [nth_eq] at hk
  exact RowAt.of_block (hp.own.cell k _ hk _ hm).1
theorem vec_val_slv {V : Vec} {size n : Nat} {xs : List Value} (h : V.OK size n xs) : ∃ q cq, V.val n = slv q n cq := ⟨_, _, Vec.val_eq h⟩
/-- A plan that a function has made lies in memory. -/
theorem made_rings {mk : Made} {rs : List (List Sd)} (h : MadeOK mk rs) {V : Vec} (hV : V.OK 1 rs.length (rowCells mk)) :
    ∃ p cap, V.val rs.length = slv p rs.length cap ∧ ∀ {W0 W : World} {bxs : List Bx}, Hp W0 bxs W → ∀ k i, nth bxs k = some (V.bx 27 (rowCells mk)) → nth bxs i = some (mkB mk) → RingsP W p rs := by
  obtain ⟨p, cap, junk⟩ := V
  cases p with
  | none =>
    have h0 := hV.nil rfl
    refine ⟨none, 0, by rw [h0]; rfl, fun _ _ _ _ _ => .inl (List.length_eq_zero_iff.1 h0)⟩
  | some g =>
    refine ⟨some ⟨g, 0, none⟩, cap, rfl, fun {W0 W bxs} hp k i hk hi => .inr ⟨g, 0, rfl, ⟨fun j l hj => ?_⟩⟩⟩
    have hjm : j < mk.length := by
      have := (List.getElem?_eq_some_iff.1 hj).1
      rw [← h.eq, List.length_map] at this; exact this
    have hl : (mk[j]).2 = l := by
      rw [← h.eq, List.getElem?_map, List.getElem?_eq_getElem hjm] at hj
      simpa using hj
    have hok := h.ok _ (List.getElem_mem hjm)
    obtain ⟨q, cq, e1⟩ := vec_val_slv hok
    refine ⟨q, cq, ?_, ?_⟩
    · have hrow := RowAt.of_bx hp k hk rfl
      refine ⟨hrow.lt, fun m u hu => ?_⟩
      have hm : m = 0 ∧ u = slv q l.length cq := by
        cases m with
        | zero => simp at hu; exact ⟨rfl, hu.symm⟩
        | succ m => simp at hu
      obtain ⟨rfl, rfl⟩ := hm
      have := hrow.get j (slv q l.length cq) (by
        show (rowCells mk ++ junk)[j]? = _
        rw [List.getElem?_append_left (by rw [rowCells, List.length_map]; exact hjm), rowCells, List.getElem?_map, List.getElem?_eq_getElem hjm]
        simp only [Option.map_some]
        rw [e1, hl])
      rw [Nat.mul_one, Nat.zero_add, Nat.add_zero]
      rw [Nat.zero_add] at this
      exact this
    · by_cases hl0 : l = []
      · exact .inl hl0
      · obtain ⟨⟨⟨p2, cap2, junk2⟩, l2⟩, hmk⟩ : ∃ x : Vec × List Sd, mk[j] = x := ⟨_, rfl⟩
        have e2 : l2 = l := by rw [hmk] at hl; exact hl
        subst e2
        rw [hmk] at hok e1
        cases p2 with
        | none => exact absurd (List.length_eq_zero_iff.1 (hok.nil rfl)) hl0
        | some g2 =>
          have e3 : q = some ⟨g2, 0, none⟩ := by
            have e1' : Value.slice (some ⟨g2, 0, none⟩) l2.length cap2 = slv q l2.length cq := e1
            injection e1' with e1' _ _
            exact e1'.symm
          refine .inr ⟨g2, 0, e3, ?_⟩
          have hin : (g2, Obj.cells (cellsOf l2 ++ junk2).toArray 42 (0, 0)) ∈ mk.reverse.flatMap fun p => (p.1.bx 42 (cellsOf p.2)).blk := by
            refine List.mem_flatMap.2 ⟨mk[j], List.mem_reverse.2 (List.getElem_mem hjm), ?_⟩
            rw [hmk]
            exact List.mem_cons_self ..
          have hrow := RowAt.of_grp hp i hi hin
          refine RingAt.of_cells hrow.lt fun m u hu => hrow.get m u ?_
          rw [List.getElem?_append_left (List.getElem?_eq_some_iff.1 hu).1]
          exact hu
theorem set_cells {s' : Sd} {f : Nat} {v : Value} {junk : List Value} (hf : f < 7) : ∀ (l : List Sd) (j : Nat), j < l.length → s'.cells = splice (sd l j).cells f [v] → splice (cellsOf l ++ junk) (j * 7 + f) [v] = cellsOf (l.set j s') ++ junk
  | [], j, h, _ => by simp at h
  | s :: l, 0, _, hs => by
    have hs : s'.cells = splice s.cells f [v] := hs
    show splice (s.cells ++ cellsOf l ++ junk) (0 * 7 + f) [v] = s'.cells ++ cellsOf l ++ junk
    rw [hs, Nat.zero_mul, Nat.zero_add]
    match f, hf with
    | 0, _ => rfl
    | 1, _ => rfl
    | 2, _ => rfl
    | 3, _ => rfl
    | 4, _ => rfl
    | 5, _ => rfl
    | 6, _ => rfl
  | s :: l, j + 1, h, hs => by
    have ih := set_cells (s' := s') (v := v) (junk := junk) hf l j (by simpa using h) (by rw [hs]; simp [sd])
    show splice (s.cells ++ cellsOf l ++ junk) ((j + 1) * 7 + f) [v] = s.cells ++ cellsOf (l.set j s') ++ junk
    rw [List.append_assoc, List.append_assoc, ← ih, show (j + 1) * 7 + f = s.cells.length + (j * 7 + f) by show _ = 7 + _; omega, splice_right]
def mvS (f : Int → Int → Int × Int) (s : Sd) : Sd := { s with x := (f s.x s.y).1, y := (f s.x s.y).2 }
def mvR (f : Int → Int → Int × Int) (rs : List (List Sd)) : List (List Sd) := rs.map (·.map (mvS f))
theorem half_len (f : Sd → Sd) (l : List Sd) (j : Nat) : ((l.take j).map f ++ l.drop j).length = l.length := by
  rw [List.length_append, List.length_map, List.length_take, List.length_drop]; omega
theorem half_sd (f : Sd → Sd) (l : List Sd) {j : Nat} (hj : j < l.length) : sd ((l.take j).map f ++ l.drop j) j = sd l j := by
  have hlen : ((l.take j).map f).length = j := by rw [List.length_map, List.length_take]; omega
  have : ((l.take j).map f ++ l.drop j)[j]? = some (sd l j) := by
    rw [List.getElem?_append_right (by omega), hlen, Nat.sub_self, List.getElem?_drop, Nat.add_zero, sd_get hj]
  show List.getD _ _ _ = _
  rw [List.getD_eq_getElem?_getD, this]
  rfl
theorem half_set (f : Sd → Sd) (l : List Sd) {j : Nat} (hj : j < l.length) : ((l.take j).map f ++ l.drop j).set j (f (sd l j)) = (l.take (j + 1)).map f ++ l.drop (j + 1) := by
  have hlen : ((l.take j).map f).length = j := by rw [List.length_map, List.length_take]; omega
  have hd : l.drop j = sd l j :: l.drop (j + 1) := by rw [List.drop_eq_getElem_cons hj]; simp [sd, hj]
  rw [List.set_append_right _ _ (by omega), hlen, Nat.sub_self, hd, List.set_cons_zero, List.take_add_one, sd_get hj]
  simp
set_option maxHeartbeats 8000000 in
theorem moved_gives (g : Nat) (hE : entersB Tryz.prog g = true) (capt : List Value) (f : Int → Int → Int × Int) (W : World) (p : Option Addr) (cap : Nat) (rs : List (List Sd)) (hn : rs.length < 1099511627776) (hT : tot rs < 1099511627776) (hR : RingsP W p rs) (hne : ∀ l ∈ rs, l ≠ [])
    (hf : ∀ W', Below W.heap.size W W' → ∀ x y, CallsR Tryz.prog g ([spot x y] ++ capt).toArray W' (fun _ : Unit => spot (f x y).1 (f x y).2) (fun _ => True) (fun _ => [])) :
    CallsR Tryz.prog 70 #[planV p rs.length cap, .func (.func g) #[] capt.toArray] W (fun x : Vec × Made => .agg #[x.1.val rs.length]) (fun x => MadeOK x.2 (mvR f rs) ∧ x.1.OK 1 rs.length (rowCells x.2)) (fun x => [x.1.bx 27 (rowCells x.2), mkB x.2]) := by
  have hl : ∀ l ∈ rs, l.length < 1099511627776 := fun l h => by have := len_le_tot h; omega
  refine calls_enter (args := [planV p rs.length cap, .func (.func g) #[] capt.toArray]) Tryz.func70 rfl rfl rfl ?_
  refine zA ?_
  refine zB ?_
  (refine wl_box rfl rfl rfl rfl ?_; intro)
  (refine wl_allocZ Tryz.hZ rfl rfl rfl rfl ?_; intro)
  refine wl_nil ?_
  rename_i b2 b4
  refine zE ?_
  refine zA ?_
  refine zB ?_
  (refine wl_allocZ Tryz.hZ rfl rfl rfl rfl ?_; intro)
  refine wl_nil ?_
  rename_i b5
  refine zE ?_
  refine zA ?_
  refine zA ?_
  refine zB ?_
  refine wl_pure Tryz.hT rfl rfl rfl ?_
  refine wl_loadBx 0 Tryz.hT rfl rfl rfl rfl rfl rfl rfl rfl ?_
  refine wl_pure Tryz.hT rfl rfl rfl ?_
  refine wl_pure Tryz.hT rfl rfl rfl ?_
  refine wl_nil ?_
  refine zE ?_
  refine zH ?_
  refine wc_newGone ?_
  refine wc_newGrp ?_
  refine wc_loop (X := Nat × Vec × Made) (fun x => [(1, .func (.func g) #[] capt.toArray), (4, .pointer (some ⟨b4, 0, none⟩)), (5, .pointer (some ⟨b5, 0, none⟩)), (12, slv p rs.length cap), (13, .int .i64 (rs.length : Nat)), (14, .int .i64 (x.1 : Nat))])
    (fun x => [⟨b2, 24, [slv p rs.length cap], true, none⟩, ⟨b4, 24, [slv none 0 0], true, none⟩, ⟨b5, 24, [x.2.1.val x.1], true, none⟩, x.2.1.bx 27 (rowCells x.2.2), mkB x.2.2])
    (fun x => x.1 ≤ rs.length ∧ MadeOK x.2.2 (mvR f (rs.take x.1)) ∧ x.2.1.OK 1 x.1 (rowCells x.2.2)) (fun x => rs.length - x.1) (0, Vec.empty, []) ⟨Nat.zero_le _, ⟨rfl, fun p hp => by cases hp⟩, Vec.OK.empty 1⟩ ⟨rfl, rfl, rfl, rfl, rfl, rfl, trivial⟩ [] rfl ?_
  rintro ⟨k, V, mk⟩ ⟨hk0, hmk0, hV0⟩
  have hk : k ≤ rs.length := hk0
  have hmk : MadeOK mk (mvR f (rs.take k)) := hmk0
  have hV : V.OK 1 k (rowCells mk) := hV0
  clear hk0 hmk0 hV0
  refine zA ?_
  refine zB ?_
  refine wl_pure Tryz.hT rfl rfl rfl ?_
  refine wl_nil ?_
  refine zE ?_
  refine zA ?_
  refine wc_cond rfl (fun h => ?_) (fun h => ?_)
  rotate_left
  · have e : k = rs.length := by simp at h; omega
    subst e
    have ev := Vec.val_eq hV
    refine zJ ?_
    refine zK ?_
    refine zK ?_
    refine zL ?_
    refine zE ?_
    refine zA ?_
    refine zB ?_
    refine wl_loadBx 2 Tryz.hT rfl rfl rfl rfl rfl rfl rfl rfl ?_
    refine wl_upd 52 (.agg #[.slice (V.p.map fun g => ⟨g, 0, none⟩) rs.length (match V.p with | none => 0 | some _ => V.cap)]) rfl (congrArg (fun v => Value.agg #[v]) ev) ?_
    refine wl_storeBx 1 Tryz.hT rfl rfl rfl rfl rfl rfl rfl rfl rfl rfl rfl ?_
    refine wl_nil ?_
    refine zE ?_
    refine zO ?_
    rw [List.take_length] at hmk
    exact ne_ret1 Tryz.hT rfl (.cell 1 rfl rfl rfl rfl rfl) (V, mk) (congrArg (fun v => Value.agg #[v]) ev.symm) ⟨hmk, hV⟩ fun W hp => (hp.pick [3, 4] (by decide) rfl).own
  have hk : k < rs.length := by simp at h; omega
  clear h
  obtain ⟨b, off, rfl, hrow⟩ := hR.row hk
  obtain ⟨q, cap2, hq1, hq2⟩ := hrow k hk
  have hlk := hl _ (List.mem_of_getElem? (rg_get hk))
  have hnek := hne _ (List.mem_of_getElem? (rg_get hk))
  refine zI ?_
  refine zE ?_
  refine zA ?_
  refine zH ?_
  refine zA ?_
  refine zB ?_
  refine wl_indexAddr Tryz.hT rfl rfl rfl rfl rfl rfl rfl (by omega) (by omega) ?_
  refine wl_load rfl rfl rfl rfl (fun W hp => RowAt.load 0 Tryz.hT rfl ((fun W hp => hq1.hp hp) W hp) rfl) ?_
  refine wl_pure Tryz.hT rfl rfl rfl ?_
  refine wl_nil ?_
  refine zE ?_
  refine zA ?_
  refine zB ?_
  refine wl_pure Tryz.hT rfl rfl rfl ?_
  refine wl_call (X := Vec) rfl rfl rfl rfl rfl rfl (by kernel_rfl) (fun W hp => clone_gives W q cap2 (rg rs k) hlk (hq2.hp hp) hnek) ?_
  rintro U0 ⟨hU0, hUp⟩
  obtain ⟨pU, capU, junk⟩ := U0
  cases pU with
  | none => exact absurd rfl hUp
  | some gU =>
  obtain ⟨hc0, _, hc2⟩ := hU0.cap (by simp)
  have hc0 : (rg rs k).length ≤ capU := hc0
  have hc2 : (cellsOf (rg rs k)).length + junk.length = capU * 7 := hc2
  refine wl_pure Tryz.hT rfl rfl rfl ?_
  refine wl_nil ?_
  refine zE ?_
  refine zA ?_
  refine zA ?_
  refine zB ?_
  refine wl_pure Tryz.hT rfl rfl rfl ?_
  refine wl_pure Tryz.hT rfl rfl rfl ?_
  refine wl_pure Tryz.hT rfl rfl rfl ?_
  refine wl_nil ?_
  refine zE ?_
  refine zH ?_
  refine wc_loop (X := Nat) (fun j => [(1, .func (.func g) #[] capt.toArray), (4, .pointer (some ⟨b4, 0, none⟩)), (5, .pointer (some ⟨b5, 0, none⟩)), (12, slv (some ⟨b, off, none⟩) rs.length cap), (13, .int .i64 (rs.length : Nat)), (14, .int .i64 (k : Nat)), (8, slv (some ⟨gU, 0, none⟩) (rg rs k).length capU), (21, .int .i64 ((rg rs k).length : Nat)), (22, .int .i64 (j : Nat))])
    (fun j => [⟨b2, 24, [slv (some ⟨b, off, none⟩) rs.length cap], true, none⟩, ⟨b4, 24, [slv none 0 0], true, none⟩, ⟨b5, 24, [V.val k], true, none⟩, V.bx 27 (rowCells mk), mkB mk, (⟨some gU, capU, junk⟩ : Vec).bx 42 (cellsOf (((rg rs k).take j).map (mvS f) ++ (rg rs k).drop j))])
    (fun j => j ≤ (rg rs k).length) (fun j => (rg rs k).length - j) 0 (Nat.zero_le _) ⟨rfl, rfl, rfl, rfl, rfl, rfl, rfl, rfl, rfl, trivial⟩ [] rfl ?_
  intro j hj
  refine zA ?_
  refine zB ?_
  refine wl_pure Tryz.hT rfl rfl rfl ?_
  refine wl_nil ?_
  refine zE ?_
  refine zA ?_
  refine wc_cond rfl (fun h => ?_) (fun h => ?_)
  · have hj : j < (rg rs k).length := by simp at h; omega
    clear h
    have hlj := half_len (mvS f) (rg rs k) j
    have hsj := half_sd (mvS f) (rg rs k) hj
    have hset := half_set (mvS f) (rg rs k) hj
    generalize eL : ((rg rs k).take j).map (mvS f) ++ (rg rs k).drop j = L at hlj hsj hset
    have hgj : L[j]? = some (sd (rg rs k) j) := by rw [← hsj]; exact sd_get (by omega)
    refine zI ?_
    refine zE ?_
    refine zA ?_
    refine zH ?_
    refine zA ?_
    refine zB ?_
    refine wl_pure Tryz.hT rfl rfl rfl ?_
    refine wl_pure Tryz.hT rfl rfl rfl ?_
    refine wl_nil ?_
    refine zE ?_
    refine zA ?_
    refine zB ?_
    refine wl_pure Tryz.hT rfl rfl rfl ?_
    refine wl_pure Tryz.hT rfl rfl rfl ?_
    refine wl_pure Tryz.hT rfl rfl rfl ?_
    refine wl_indexAddr Tryz.hT rfl rfl rfl rfl rfl rfl rfl (by omega) (by omega) ?_
    refine wl_load rfl rfl rfl rfl (fun W hp => RowAt.load 0 Tryz.hT rfl ((fun W hp => Vec.rowAt (f := Sd.cells) (n := 7) (fun _ => rfl) hp 5 rfl hgj) W hp) rfl) ?_
    refine wl_call1 rfl rfl rfl rfl rfl rfl (by kernel_rfl) (fun W _ => (corner_gives ..)) ?_
    refine wl_call1 (g := g) (capt := capt) (v := spot (f (sd (rg rs k) j).x (sd (rg rs k) j).y).1 (f (sd (rg rs k) j).x (sd (rg rs k) j).y).2) rfl rfl rfl rfl rfl rfl hE (fun W' hp => hf W' hp.below (sd (rg rs k) j).x (sd (rg rs k) j).y) ?_
    (refine wl_allocZ Tryz.hZ rfl rfl rfl rfl ?_; intro)
    refine wl_storeBx 6 Tryz.hT rfl rfl rfl rfl rfl rfl rfl rfl rfl rfl rfl ?_
    refine wl_nil ?_
    rename_i b10
    refine zE ?_
    generalize hX : (f (sd (rg rs k) j).x (sd (rg rs k) j).y).1 = X at *
    generalize hY : (f (sd (rg rs k) j).x (sd (rg rs k) j).y).2 = Y at *
    have hjL : j < L.length := by omega
    have hlen7 : (cellsOf L ++ junk).length = capU * 7 := by rw [List.length_append, cellsOf_length, hlj, ← cellsOf_length]; exact hc2
    have h1 : splice (cellsOf L ++ junk) (0 + j * 7 + 0) [.int .i64 X] = cellsOf (L.set j { sd (rg rs k) j with x := X }) ++ junk := by
      rw [Nat.zero_add]
      exact set_cells (s' := { sd (rg rs k) j with x := X }) (by omega) L j hjL (by rw [hsj]; rfl)
    have h2 : splice (cellsOf (L.set j { sd (rg rs k) j with x := X }) ++ junk) (0 + j * 7 + 1) [.int .i64 Y] = cellsOf (((rg rs k).take (j + 1)).map (mvS f) ++ (rg rs k).drop (j + 1)) ++ junk := by
      rw [Nat.zero_add, set_cells (s' := mvS f (sd (rg rs k) j)) (by omega) (L.set j { sd (rg rs k) j with x := X }) j (by rw [List.length_set]; exact hjL) (by
        have e : sd (L.set j { sd (rg rs k) j with x := X }) j = { sd (rg rs k) j with x := X } := by simp [sd, hjL]
        rw [e, ← hY]
        show (mvS f (sd (rg rs k) j)).cells = _
        unfold mvS
        rw [hX]; rfl), List.set_set, hset]
    refine wc_lateX (X := Unit) (fun _ => [(1, .func (.func g) #[] capt.toArray), (4, .pointer (some ⟨b4, 0, none⟩)), (5, .pointer (some ⟨b5, 0, none⟩)), (12, slv (some ⟨b, off, none⟩) rs.length cap), (13, .int .i64 (rs.length : Nat)), (14, .int .i64 (k : Nat)), (8, slv (some ⟨gU, 0, none⟩) (rg rs k).length capU), (21, .int .i64 ((rg rs k).length : Nat)), (22, .int .i64 (j : Nat))])
      (fun _ => [⟨b2, 24, [slv (some ⟨b, off, none⟩) rs.length cap], true, none⟩, ⟨b4, 24, [slv none 0 0], true, none⟩, ⟨b5, 24, [V.val k], true, none⟩, V.bx 27 (rowCells mk), mkB mk, (⟨some gU, capU, junk⟩ : Vec).bx 42 (cellsOf (((rg rs k).take (j + 1)).map (mvS f) ++ (rg rs k).drop (j + 1)))])
      4 [gone, gone, gone, gone, gone, gone, ⟨b10, 87, (spot X Y).cells.toList, true, none⟩] Tryz.mixed (by kernel_rfl) ?_ ?_
    · refine wq_pure Tryz.hT rfl rfl rfl ?_
      refine wq_pure Tryz.hT rfl rfl rfl ?_
      refine wq_pure Tryz.hT rfl rfl rfl ?_
      refine wq_pure Tryz.hT rfl rfl rfl ?_
      refine wq_pure Tryz.hT rfl rfl rfl ?_
      refine wq_loadBx 6 Tryz.hT rfl rfl rfl rfl rfl rfl rfl rfl ?_
      refine wq_pure Tryz.hT rfl rfl rfl ?_
      refine wq_loadBx 6 Tryz.hT rfl rfl rfl rfl rfl rfl rfl rfl ?_
      refine wq_indexAddr Tryz.hT rfl rfl rfl rfl rfl rfl rfl (by omega) (by omega) ?_
      refine wq_pure Tryz.hT rfl rfl rfl ?_
      refine wq_wt ?_
      refine wt_step rfl rfl (by ((repeat (first | refine Weak.same ?_ | refine Weak.off rfl ?_)); exact trivial)) ?_
      refine RS.cons ?_ (RS.nil)
      refine wl_storeTo 5 _ Tryz.hT rfl rfl rfl rfl rfl rfl rfl rfl rfl rfl (by show 0 + j * 7 + 0 + 1 ≤ (cellsOf L ++ junk).length; omega) h1 ?_
      refine wl_nil ?_
      refine ne_wt ?_
      refine wt_step rfl rfl (by ((repeat (first | refine Weak.same ?_ | refine Weak.off rfl ?_)); exact trivial)) ?_
      refine RS.cons ?_ (RS.nil)
      refine wl_indexAddr Tryz.hT rfl rfl rfl rfl rfl rfl rfl (by omega) (by omega) ?_
      refine wl_nil ?_
      refine ne_wt ?_
      refine wt_step rfl rfl (by ((repeat (first | refine Weak.same ?_ | refine Weak.off rfl ?_)); exact trivial)) ?_
      refine RS.cons ?_ (RS.nil)
      refine wl_pure Tryz.hT rfl rfl rfl ?_
      refine wl_nil ?_
      refine ne_wt ?_
      refine wt_step rfl rfl (by ((repeat (first | refine Weak.same ?_ | refine Weak.off rfl ?_)); exact trivial)) ?_
      refine RS.cons ?_ (RS.nil)
      refine wl_storeTo 5 _ Tryz.hT rfl rfl rfl rfl rfl rfl rfl rfl rfl rfl (by show 0 + j * 7 + 1 + 1 ≤ (cellsOf (L.set j { sd (rg rs k) j with x := X }) ++ junk).length; rw [List.length_append, cellsOf_length, List.length_set, ← cellsOf_length, ← List.length_append]; omega) h2 ?_
      refine wl_nil ?_
      refine ne_wt ?_
      refine wt_done rfl (by ((repeat (first | refine Weak.same ?_ | refine Weak.off rfl ?_)); exact trivial)) ?_
      exact ne_late () ⟨rfl, rfl, rfl, rfl, rfl, rfl, rfl, rfl, rfl, trivial⟩ [0, 1, 2, 3, 4, 5] (by decide) rfl
    · intro _
      refine zN ?_
      refine zE ?_
      refine zB ?_
      refine wl_pure Tryz.hT rfl rfl rfl ?_
      refine wl_pure Tryz.hT rfl rfl rfl ?_
      refine wl_nil ?_
      exact ne_loop (j + 1) hj (by omega) ⟨rfl, rfl, rfl, rfl, rfl, rfl, rfl, rfl, congrArg (fun z => some (Value.int .i64 z)) (wrap_id (x := (j : Int) + 1) (by omega) (by omega)), trivial⟩ [] rfl
  · have e : j = (rg rs k).length := by simp at h; omega
    subst e
    clear h
    have hfull : ((rg rs k).take (rg rs k).length).map (mvS f) ++ (rg rs k).drop (rg rs k).length = (rg rs k).map (mvS f) := by rw [List.take_length, List.drop_length, List.append_nil]
    have hlm : ((rg rs k).map (mvS f)).length = (rg rs k).length := List.length_map _
    have hU1 : (⟨some gU, capU, junk⟩ : Vec).OK 7 ((rg rs k).map (mvS f)).length (cellsOf ((rg rs k).map (mvS f))) := by
      refine ⟨cellsOf_length _, (fun h => by cases h), fun _ => ⟨by rw [hlm]; exact hc0, (hU0.cap (by simp)).2.1, ?_⟩⟩
      rw [cellsOf_length, hlm, ← cellsOf_length]; exact hc2
    have hrow : rowCells (mk ++ [((⟨some gU, capU, junk⟩ : Vec), (rg rs k).map (mvS f))]) = rowCells mk ++ [slv (some ⟨gU, 0, none⟩) (rg rs k).length capU] := by
      rw [rowCells_snoc]
      show _ ++ [slv (some ⟨gU, 0, none⟩) ((rg rs k).map (mvS f)).length capU] = _
      rw [hlm]
    have htk : mvR f (rs.take (k + 1)) = mvR f (rs.take k) ++ [(rg rs k).map (mvS f)] := by
      unfold mvR
      rw [List.take_add_one, rg_get hk]; simp
    rw [hfull]
    refine zJ ?_
    refine zK ?_
    refine zK ?_
    refine zL ?_
    refine zE ?_
    refine zB ?_
    refine wl_pure Tryz.hT rfl rfl rfl ?_
    refine wl_loadBx 2 Tryz.hT rfl rfl rfl rfl rfl rfl rfl rfl ?_
    refine wl_pure Tryz.hT rfl rfl rfl ?_
    (refine wl_buildRowZ Tryz.hZ Tryz.hT rfl rfl rfl rfl rfl rfl rfl rfl rfl rfl rfl ?_; intro)
    refine wl_appendTo (V := V) (xs := rowCells mk) (len := k) 3 6 Tryz.vec22 (k + 1) (rowCells (mk ++ [((⟨some gU, capU, junk⟩ : Vec), (rg rs k).map (mvS f))])) rfl rfl rfl rfl rfl rfl rfl rfl rfl rfl rfl hV rfl rfl rfl (by rw [hrow]; rfl) (by simp only [maxLen]; omega) (by omega) rfl ?_
    intro g1 c1 j1 hV1
    refine wl_pure Tryz.hT rfl rfl rfl ?_
    refine wl_storeBx 2 Tryz.hT rfl rfl rfl rfl rfl rfl rfl rfl rfl rfl rfl ?_
    refine wl_nil ?_
    refine zN ?_
    refine zE ?_
    refine zB ?_
    refine wl_pure Tryz.hT rfl rfl rfl ?_
    refine wl_pure Tryz.hT rfl rfl rfl ?_
    refine wl_nil ?_
    refine ne_join 4 5 (mkB (mk ++ [((⟨some gU, capU, junk⟩ : Vec), (rg rs k).map (mvS f))])) rfl rfl rfl (mkB_snoc mk _ _) ?_
    exact ne_loop (k + 1, ⟨some g1, c1, j1⟩, mk ++ [((⟨some gU, capU, junk⟩ : Vec), (rg rs k).map (mvS f))]) ⟨hk, htk ▸ hmk.snoc hU1, hV1⟩ (by show rs.length - (k + 1) < rs.length - k; omega) ⟨rfl, rfl, rfl, rfl, rfl, congrArg (fun z => some (Value.int .i64 z)) (wrap_id (x := (k : Int) + 1) (by omega) (by omega)), trivial⟩ [gone, _] rfl
end Go.Proofs.YtnpfkmbcejgnjaaGreatDoor
