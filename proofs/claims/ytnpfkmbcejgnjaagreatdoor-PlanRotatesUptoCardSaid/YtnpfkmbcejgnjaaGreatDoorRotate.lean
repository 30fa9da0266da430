/-
  Plans rotated by right angles.
-/
import Derived.Test.YtnpfkmbcejgnjaaGreatDoorLeast
namespace Go.Proofs.YtnpfkmbcejgnjaaGreatDoor
open Go Go.RowKit Go.Am
set_option maxRecDepth 10000
-- BOXES 8
/-- How many quarter turns. -/
def qn (n : Int) : Int := Int.tmod (w64 (Int.tmod n 4 + 4)) 4
def rotN : Nat → List (List Sd) → List (List Sd)
  | 0, rs => rs
  | k + 1, rs => mvR rotF (rotN k rs)
def rotV (rs : List (List Sd)) (n : Nat) : List (List Sd) := mvR (homF (lstL (rotN n rs).flatten).1 (lstL (rotN n rs).flatten).2 (lstL rs.flatten).1 (lstL rs.flatten).2) (rotN n rs)
theorem rotN_len (n : Nat) (rs : List (List Sd)) : (rotN n rs).length = rs.length := by
  induction n with
  | zero => rfl
  | succ n ih => show (mvR rotF (rotN n rs)).length = _; rw [mvR_len, ih]
theorem rotN_tot (n : Nat) (rs : List (List Sd)) : tot (rotN n rs) = tot rs := by
  induction n with
  | zero => rfl
  | succ n ih => show tot (mvR rotF (rotN n rs)) = _; rw [tot_mvR, ih]
theorem rotN_ne {rs : List (List Sd)} (h : ∀ l ∈ rs, l ≠ []) : ∀ n, ∀ l ∈ rotN n rs, l ≠ []
  | 0 => h
  | n + 1 => mvR_ne (rotN_ne h n)
/-- A plan on the way: the one that came in, or one that was made. -/
abbrev Way := Option (Vec × Made)
def wayV (v : Value) (n : Nat) : Way → Value
  | none => v
  | some x => x.1.val n
def wayA : Way → Bx
  | none => gone
  | some x => x.1.bx 27 (rowCells x.2)
def wayB : Way → Bx
  | none => gone
  | some x => mkB x.2
def wayOK (rs : List (List Sd)) (k : Nat) : Way → Prop
  | none => k = 0
  | some x => MadeOK x.2 (rotN k rs) ∧ x.1.OK 1 rs.length (rowCells x.2)
theorem way_rings {W0 : World} {p : Option Addr} {cap : Nat} {rs : List (List Sd)} (hR : RingsP W0 p rs) {k : Nat} {y : Way} (h : wayOK rs k y) :
    ∃ q cq, wayV (slv p rs.length cap) rs.length y = slv q (rotN k rs).length cq ∧ ∀ {W : World} {bxs : List Bx}, Hp W0 bxs W → ∀ i j, nth bxs i = some (wayA y) → nth bxs j = some (wayB y) → RingsP W q (rotN k rs) := by
  cases y with
  | none =>
    obtain rfl : k = 0 := h
    exact ⟨p, cap, rfl, fun hp _ _ _ _ => hR.hp hp⟩
  | some x =>
    obtain ⟨V, mk⟩ := x
    obtain ⟨h1, h2⟩ : MadeOK mk (rotN k rs) ∧ V.OK 1 rs.length (rowCells mk) := h
    have h2' : V.OK 1 (rotN k rs).length (rowCells mk) := by rw [rotN_len]; exact h2
    obtain ⟨q, cq, e1, e2⟩ := made_rings h1 h2'
    exact ⟨q, cq, by rw [← e1, rotN_len]; rfl, fun hp i j hi hj => e2 hp i j hi hj⟩
theorem ne_pick {r : Nat} {D : List Deferred} {Q : Exit → Act → World → Prop} {e : Exit} {env : Env} {W0 : World} {bxs bxs' : List Bx} (s : List Nat) (hs : s.Nodup) (hp : pick bxs s = some bxs') (h : NE r D Q e env (Hp W0 bxs')) : NE r D Q e env (Hp W0 bxs) :=
  .mk fun a W ha hd hh => h.out a W ha hd (hh.pick s hs hp)
/-- Where a plan lies that is rotated. -/
def rotX (rs : List (List Sd)) : Way → Value
  | none => .tuple #[noPlan, .int .i64 2]
  | some x => .tuple #[.agg #[x.1.val rs.length], .int .i64 0]
def rotOK (rs : List (List Sd)) (n : Nat) : Way → Prop
  | none => (rotV rs n).flatten.any (fun s => !rgd s) = true
  | some x => (rotV rs n).flatten.any (fun s => !rgd s) = false ∧ MadeOK x.2 (rotV rs n) ∧ x.1.OK 1 rs.length (rowCells x.2)
def rotB : Way → List Bx
  | none => []
  | some x => [x.1.bx 27 (rowCells x.2), mkB x.2]
theorem qn_lt (n : Int) : 0 ≤ qn n ∧ qn n < 4 := by
  have h1 : -4 < Int.tmod n 4 := by have := Int.lt_tmod_of_pos n (show (0 : Int) < 4 by decide); omega
  have h2 : Int.tmod n 4 < 4 := Int.tmod_lt_of_pos n (by decide)
  unfold qn
  rw [w64_id (by omega) (by omega)]
  exact ⟨Int.tmod_nonneg _ (by omega), Int.tmod_lt_of_pos _ (by decide)⟩
set_option maxHeartbeats 4000000 in
theorem rotate_gives (W : World) (p : Option Addr) (cap : Nat) (rs : List (List Sd)) (n : Int) (hn : rs.length < 1099511627776) (hR : RingsP W p rs) (hc : chk rs = 0) :
    CallsR Tryz.prog 28 #[planV p rs.length cap, .int .i64 n] W (rotX rs) (rotOK rs (qn n).toNat) rotB := by
  obtain ⟨hne, hT24, h0⟩ := chk_ne hc
  have hT : tot rs < 1099511627776 := by omega
  refine calls_enter (args := [planV p rs.length cap, .int .i64 n]) Tryz.func28 rfl rfl rfl ?_
  refine zA ?_
  refine zB ?_
  (refine wl_box rfl rfl rfl rfl ?_; intro)
  (refine wl_allocZ Tryz.hZ rfl rfl rfl rfl ?_; intro)
  refine wl_pure Tryz.hT rfl rfl rfl ?_
  refine wl_nil ?_
  rename_i b2 b4
  refine zE ?_
  refine zA ?_
  refine zA ?_
  refine zB ?_
  refine wl_loadBx 0 Tryz.hT rfl rfl rfl rfl rfl rfl rfl rfl ?_
  refine wl_call1 rfl rfl rfl rfl rfl rfl (by kernel_rfl) (fun W hp => (check_gives W p cap rs (by omega) hT (hR.hp hp)).cast (by rw [hc])) ?_
  refine wl_pure Tryz.hT rfl rfl rfl ?_
  refine wl_nil ?_
  refine zE ?_
  refine zS rfl ?_
  refine zI ?_
  refine zE ?_
  refine wc_seq ?_
  refine wc_lateS (X := Nat × Nat) (fun x => [(1, .int .i64 n), (4, .pointer (some ⟨b4, 0, none⟩)), (5, .int .i64 0), (6, .pointer (some ⟨x.1, 0, none⟩)), (7, .pointer (some ⟨x.2, 0, none⟩))])
    (fun x => [⟨b2, 24, [slv p rs.length cap], true, none⟩, ⟨b4, 24, [slv none 0 0], true, none⟩, ⟨x.1, 87, [.int .i64 (lstL rs.flatten).1, .int .i64 (lstL rs.flatten).2], true, none⟩, ⟨x.2, 24, [slv p rs.length cap], true, none⟩]) 4 Tryz.mixed (by kernel_rfl) ?_ ?_
  · refine wq_loadBx 0 Tryz.hT rfl rfl rfl rfl rfl rfl rfl rfl ?_
    refine wq_call1 rfl rfl rfl rfl rfl rfl (by kernel_rfl) (fun W hp => least_gives W p cap rs (by omega) hT h0 (hR.hp hp) hne) ?_
    refine wq_loadBx 0 Tryz.hT rfl rfl rfl rfl rfl rfl rfl rfl ?_
    refine wq_wt ?_
    refine wt_step rfl rfl (by ((repeat (first | refine Weak.same ?_ | refine Weak.off rfl ?_)); exact trivial)) ?_
    refine RS.cons ?_ (RS.cons ?_ (RS.nil))
    · refine wl_allocZ Tryz.hZ rfl rfl rfl rfl ?_; intro b6
      refine wl_nil ?_
      refine ne_wt ?_
      refine wt_step rfl rfl (by ((repeat (first | refine Weak.same ?_ | refine Weak.off rfl ?_)); exact trivial)) ?_
      refine RS.cons ?_ (RS.nil)
      refine wl_allocZ Tryz.hZ rfl rfl rfl rfl ?_; intro b7
      refine wl_nil ?_
      refine ne_wt ?_
      refine wt_step rfl rfl (by ((repeat (first | refine Weak.same ?_ | refine Weak.off rfl ?_)); exact trivial)) ?_
      refine RS.cons ?_ (RS.nil)
      refine wl_storeBx 2 Tryz.hT rfl rfl rfl rfl rfl rfl rfl rfl rfl rfl rfl ?_
      refine wl_nil ?_
      refine ne_wt ?_
      refine wt_step rfl rfl (by ((repeat (first | refine Weak.same ?_ | refine Weak.off rfl ?_)); exact trivial)) ?_
      refine RS.cons ?_ (RS.nil)
      refine wl_storeBx 3 Tryz.hT rfl rfl rfl rfl rfl rfl rfl rfl rfl rfl rfl ?_
      refine wl_nil ?_
      refine ne_wt ?_
      (first | refine wt_done rfl (by ((repeat (first | refine Weak.same ?_ | refine Weak.off rfl ?_)); exact trivial)) ?_ | refine wt_doneF rfl (by kernel_rfl) ?_); (first | exact ne_late (b6, b7) ⟨rfl, rfl, rfl, rfl, rfl, trivial⟩ [0, 1, 2, 3] (by decide) rfl | exact ne_late (b6, b7) ⟨rfl, rfl, rfl, rfl, rfl, trivial⟩ [0, 1, 3, 2] (by decide) rfl)
    · refine wl_allocZ Tryz.hZ rfl rfl rfl rfl ?_; intro b7
      refine wl_nil ?_
      refine ne_wt ?_
      refine wt_step rfl rfl (by ((repeat (first | refine Weak.same ?_ | refine Weak.off rfl ?_)); exact trivial)) ?_
      refine RS.cons ?_ (RS.nil)
      refine wl_allocZ Tryz.hZ rfl rfl rfl rfl ?_; intro b6
      refine wl_nil ?_
      refine ne_wt ?_
      refine wt_step rfl rfl (by ((repeat (first | refine Weak.same ?_ | refine Weak.off rfl ?_)); exact trivial)) ?_
      refine RS.cons ?_ (RS.nil)
      refine wl_storeBx 3 Tryz.hT rfl rfl rfl rfl rfl rfl rfl rfl rfl rfl rfl ?_
      refine wl_nil ?_
      refine ne_wt ?_
      refine wt_step rfl rfl (by ((repeat (first | refine Weak.same ?_ | refine Weak.off rfl ?_)); exact trivial)) ?_
      refine RS.cons ?_ (RS.nil)
      refine wl_storeBx 2 Tryz.hT rfl rfl rfl rfl rfl rfl rfl rfl rfl rfl rfl ?_
      refine wl_nil ?_
      refine ne_wt ?_
      (first | refine wt_done rfl (by ((repeat (first | refine Weak.same ?_ | refine Weak.off rfl ?_)); exact trivial)) ?_ | refine wt_doneF rfl (by kernel_rfl) ?_); (first | exact ne_late (b6, b7) ⟨rfl, rfl, rfl, rfl, rfl, trivial⟩ [0, 1, 2, 3] (by decide) rfl | exact ne_late (b6, b7) ⟨rfl, rfl, rfl, rfl, rfl, trivial⟩ [0, 1, 3, 2] (by decide) rfl)
  rintro ⟨b6, b7⟩
  refine zE ?_
  refine zA ?_
  refine zA ?_
  refine zB ?_
  refine wl_pure Tryz.hT rfl rfl rfl ?_
  refine wl_rem rfl rfl rfl rfl rfl (by decide) ?_
  refine wl_pure Tryz.hT rfl rfl rfl ?_
  refine wl_rem rfl rfl rfl rfl rfl (by decide) ?_
  refine wl_pure Tryz.hT rfl rfl rfl ?_
  refine wl_nil ?_
  obtain ⟨hq0, hq4⟩ := qn_lt n
  have hqn : qn n = ((qn n).toNat : Int) := by omega
  refine ne_then ?_
  refine wc_upd 19 (.int .i64 ((qn n).toNat : Int)) rfl (congrArg (Value.int .i64) hqn) ?_
  generalize (qn n).toNat = m at hqn ⊢
  refine zH ?_
  refine wc_newGone ?_
  refine wc_newGone ?_
  refine wc_loop (X := Nat × Way) (fun x => [(4, .pointer (some ⟨b4, 0, none⟩)), (5, .int .i64 0), (6, .pointer (some ⟨b6, 0, none⟩)), (7, .pointer (some ⟨b7, 0, none⟩)), (19, .int .i64 (m : Nat)), (20, .int .i64 (x.1 : Nat))])
    (fun x => [⟨b2, 24, [slv p rs.length cap], true, none⟩, ⟨b4, 24, [slv none 0 0], true, none⟩, ⟨b6, 87, [.int .i64 (lstL rs.flatten).1, .int .i64 (lstL rs.flatten).2], true, none⟩, ⟨b7, 24, [wayV (slv p rs.length cap) rs.length x.2], true, none⟩, wayA x.2, wayB x.2])
    (fun x => x.1 ≤ m ∧ wayOK rs x.1 x.2) (fun x => m - x.1) (0, none) ⟨Nat.zero_le _, rfl⟩ ⟨rfl, rfl, rfl, rfl, rfl, rfl, trivial⟩ [] rfl ?_
  rintro ⟨k, y⟩ ⟨hk0, hy0⟩
  have hk : k ≤ m := hk0
  have hy : wayOK rs k y := hy0
  clear hk0 hy0
  obtain ⟨q, cq, eV, hq⟩ := way_rings (p := p) (cap := cap) hR hy
  refine zA ?_
  refine zB ?_
  refine wl_pure Tryz.hT rfl rfl rfl ?_
  refine wl_nil ?_
  refine zE ?_
  refine zA ?_
  refine wc_cond rfl (fun h => ?_) (fun h => ?_)
  · have hk : k < m := by simp at h; omega
    clear h
    refine zI ?_
    refine zE ?_
    refine zA ?_
    refine zH ?_
    refine zB ?_
    refine wl_loadBx 3 Tryz.hT rfl rfl rfl rfl rfl rfl rfl rfl ?_
    refine wl_upd 22 (planV q (rotN k rs).length cq) rfl (congrArg (fun v => Value.agg #[v]) eV) ?_
    refine wl_call (X := Vec × Made) rfl rfl rfl rfl rfl rfl (by kernel_rfl) (fun W hp => moved_gives 73 (by kernel_rfl) [] rotF W q cq (rotN k rs) (by rw [rotN_len]; exact hn) (by rw [rotN_tot]; exact hT) (hq hp 4 5 rfl rfl) (rotN_ne hne k) (fun W' _ x y => rot1_gives x y W')) ?_
    rintro ⟨V, mk⟩ ⟨hmk, hV⟩
    have hV' : V.OK 1 rs.length (rowCells mk) := by rw [rotN_len] at hV; exact hV
    obtain ⟨q', c', e'⟩ := vec_val_slv hV'
    refine wl_upd 23 (planV q' rs.length c') rfl (congrArg (fun v => Value.agg #[v]) (by rw [rotN_len]; exact e')) ?_
    refine wl_storeBx 3 Tryz.hT rfl rfl rfl rfl rfl rfl rfl rfl rfl rfl rfl ?_
    refine wl_nil ?_
    refine zN ?_
    refine zE ?_
    refine zB ?_
    refine wl_pure Tryz.hT rfl rfl rfl ?_
    refine wl_pure Tryz.hT rfl rfl rfl ?_
    refine wl_nil ?_
    refine ne_pick [0, 1, 2, 3, 6, 7] (by decide) rfl ?_
    exact ne_loop (k + 1, some (V, mk)) ⟨hk, hmk, hV'⟩ (by show m - (k + 1) < m - k; omega) ⟨rfl, rfl, rfl, rfl, rfl, congrArg (fun z => some (Value.int .i64 z)) (wrap_id (x := (k : Int) + 1) (by omega) (by omega)), trivial⟩ [] (by show _ = [_, _, _, (⟨b7, 24, [V.val rs.length], true, none⟩ : Bx), _, _] ++ []; rw [e']; rfl)
  · have e : k = m := by simp at h; omega
    subst e
    clear h
    refine zJ ?_
    refine zK ?_
    refine zK ?_
    refine zL ?_
    refine zE ?_
    refine zA ?_
    refine zB ?_
    refine wl_loadBx 3 Tryz.hT rfl rfl rfl rfl rfl rfl rfl rfl ?_
    refine wl_upd 25 (planV q (rotN k rs).length cq) rfl (congrArg (fun v => Value.agg #[v]) eV) ?_
    refine wl_call1 rfl rfl rfl rfl rfl rfl (by kernel_rfl) (fun W hp => least_gives W q cq (rotN k rs) (by rw [rotN_len]; omega) (by rw [rotN_tot]; exact hT) (by rw [rotN_tot]; exact h0) (hq hp 4 5 rfl rfl) (rotN_ne hne k)) ?_
    (refine wl_allocZ Tryz.hZ rfl rfl rfl rfl ?_; intro)
    refine wl_storeBx 6 Tryz.hT rfl rfl rfl rfl rfl rfl rfl rfl rfl rfl rfl ?_
    refine wl_nil ?_
    rename_i b8
    refine zE ?_
    refine zA ?_
    refine zB ?_
    refine wl_loadBx 3 Tryz.hT rfl rfl rfl rfl rfl rfl rfl rfl ?_
    refine wl_pure Tryz.hT rfl rfl rfl ?_
    refine wl_upd 27 (planV q (rotN k rs).length cq) rfl (congrArg (fun v => Value.agg #[v]) eV) ?_
    refine wl_call (X := Vec × Made) rfl rfl rfl rfl rfl rfl (by kernel_rfl) (fun W hp => moved_gives 74 (by kernel_rfl) [.pointer (some ⟨b8, 0, none⟩), .pointer (some ⟨b6, 0, none⟩)] (homF (lstL (rotN k rs).flatten).1 (lstL (rotN k rs).flatten).2 (lstL rs.flatten).1 (lstL rs.flatten).2) W q cq (rotN k rs) (by rw [rotN_len]; exact hn) (by rw [rotN_tot]; exact hT) (hq hp 4 5 rfl rfl) (rotN_ne hne k) (fun W' hb x y => rot2_gives _ _ _ _ x y W' b8 b6 ((RowAt.of_bx hp 6 rfl rfl).below (Nat.le_refl _) hb) ((RowAt.of_bx hp 2 rfl rfl).below (Nat.le_refl _) hb))) ?_
    rintro ⟨V, mk⟩ ⟨hmk, hV⟩
    have hmk : MadeOK mk (rotV rs k) := hmk
    have hl : (rotV rs k).length = rs.length := by unfold rotV; rw [mvR_len, rotN_len]
    have hV' : V.OK 1 (rotV rs k).length (rowCells mk) := by rw [hl]; rw [rotN_len] at hV; exact hV
    obtain ⟨q2, cq2, eV2, hrings⟩ := made_rings hmk hV'
    refine wl_upd 29 (planV q2 (rotV rs k).length cq2) rfl (congrArg (fun v => Value.agg #[v]) (by rw [← eV2, hl, rotN_len])) ?_
    refine wl_call1 rfl rfl rfl rfl rfl rfl (by kernel_rfl) (fun W hp => bounded_gives W q2 cq2 (rotV rs k) (by rw [hl]; omega) (by unfold rotV; rw [tot_mvR, rotN_tot]; exact hT) (hrings hp 7 8 rfl rfl) (by unfold rotV; exact mvR_ne (rotN_ne hne k))) ?_
    cases hr : (rotV rs k).flatten.any (fun s => !rgd s) with
    | true =>
      refine wl_upd 30 (.tuple #[noPlan, .int .i64 2]) rfl (by rw [if_pos rfl]) ?_
      refine wl_pure Tryz.hT rfl rfl rfl ?_
      refine wl_pure Tryz.hT rfl rfl rfl ?_
      refine wl_storeBx 1 Tryz.hT rfl rfl rfl rfl rfl rfl rfl rfl rfl rfl rfl ?_
      refine wl_pure Tryz.hT rfl rfl rfl ?_
      refine wl_nil ?_
      refine zE ?_
      refine zO ?_
      exact ne_ret2 Tryz.hT rfl (.cell 1 rfl rfl rfl rfl rfl) (.tmp rfl) none rfl hr fun W _ => NewBx.nil _ _
    | false =>
      refine wl_upd 30 (.tuple #[planV q2 (rotV rs k).length cq2, .int .i64 0]) rfl (by rw [if_neg (by decide)]) ?_
      refine wl_pure Tryz.hT rfl rfl rfl ?_
      refine wl_pure Tryz.hT rfl rfl rfl ?_
      refine wl_storeBx 1 Tryz.hT rfl rfl rfl rfl rfl rfl rfl rfl rfl rfl rfl ?_
      refine wl_pure Tryz.hT rfl rfl rfl ?_
      refine wl_nil ?_
      refine zE ?_
      refine zO ?_
      exact ne_ret2 Tryz.hT rfl (.cell 1 rfl rfl rfl rfl rfl) (.tmp rfl) (some (V, mk)) (by show Value.tuple #[.agg #[slv q2 _ cq2], _] = .tuple #[.agg #[V.val rs.length], _]; rw [← eV2, hl]) ⟨hr, hmk, hl ▸ hV'⟩ fun W hp => (hp.pick [7, 8] (by decide) rfl).own
end Go.Proofs.YtnpfkmbcejgnjaaGreatDoor
