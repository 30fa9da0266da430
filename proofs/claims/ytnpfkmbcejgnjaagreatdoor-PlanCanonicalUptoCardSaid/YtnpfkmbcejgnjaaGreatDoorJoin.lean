/-
  Are reflex corners right, and not all sides gables.
-/
import Derived.Test.YtnpfkmbcejgnjaaGreatDoorRings
namespace Go.Proofs.YtnpfkmbcejgnjaaGreatDoor
-- OLD
open Go Go.RowKit Go.Am
set_option maxRecDepth 10000
-- BOXES 8
-- EQB 4
/-- Does a ring turn left at a corner. -/
def leftB (s t u : Sd) : Bool := decide (w64 (w64 (w64 (t.x - s.x) * w64 (u.y-t.y)) - w64 (w64 (t.y-s.y) * w64 (u.x-t.x))) > 0)
def joinB (s t u : Sd) : Bool := leftB s t u || (!t.gable && !s.gable && (t.plate == s.plate))
def joinSide (l : List Sd) (k : Nat) : Bool := joinB (sd l (prv l.length k)) (sd l k) (sd l (nxt l.length k))
def someUp (l : List Sd) (b : Bool) : Nat → Bool
  | 0 => b
  | k + 1 => someUp l b k || !(sd l k).gable
def someRs (rs : List (List Sd)) : Nat → Bool
  | 0 => false
  | k + 1 => someUp (rg rs k) (someRs rs k) (rg rs k).length
def joinRing (l : List Sd) : Bool := (List.range l.length).all (joinSide l)
def jnd (rs : List (List Sd)) : Bool := rs.all joinRing && someRs rs rs.length
set_option maxHeartbeats 8000000 in
theorem joined_gives (W : World) (p : Option Addr) (cap : Nat) (rs : List (List Sd)) (hn : rs.length < 4611686018427387904) (hl : ∀ l ∈ rs, l.length < 4611686018427387904) (hR : RingsP W p rs) :
    CallsR Tryz.prog 63 #[slv p rs.length cap] W (fun _ : Unit => .bool (jnd rs)) (fun _ => True) (fun _ => []) := by
  refine calls_enter (args := [slv p rs.length cap]) Tryz.func63 rfl rfl rfl ?_
  refine zA ?_
  refine zB ?_
  refine wl_alloc (z := .bool false) rfl rfl rfl (fun W => by kernel_rfl) fun b2 => ?_
  refine zC ?_
  refine zE ?_
  refine zA ?_
  refine zB ?_
  refine wl_alloc (z := .bool false) rfl rfl rfl (fun W => by kernel_rfl) fun b3 => ?_
  refine wl_storeBx 1 Tryz.hT rfl rfl rfl rfl rfl rfl rfl rfl rfl rfl rfl ?_
  refine zC ?_
  refine zE ?_
  refine zA ?_
  refine zA ?_
  refine zB ?_
  refine wl_pure Tryz.hT rfl rfl rfl ?_
  refine wl_pure Tryz.hT rfl rfl rfl ?_
  refine wl_pure Tryz.hT rfl rfl rfl ?_
  refine zC ?_
  refine zE ?_
  refine zH ?_
  refine wc_newBag ?_
  refine wc_loopD (X := Nat × Bool × List Nat) (fun x => x.2.2.map dmark) (fun x => [(2, .pointer (some ⟨b2, 0, none⟩)), (3, .pointer (some ⟨b3, 0, none⟩)), (8, slv p rs.length cap), (9, .int .i64 (rs.length : Nat)), (10, .int .i64 (x.1 : Nat))])
    (fun x => [⟨b2, 4, [.bool false], true, none⟩, ⟨b3, 4, [.bool x.2.1], true, none⟩, bag x.2.2]) (fun x => x.1 ≤ rs.length ∧ x.2.1 = someRs rs x.1 ∧ ∀ i, i < x.1 → joinRing (rg rs i) = true) (fun x => rs.length - x.1) (0, false, [])
    ⟨Nat.zero_le _, rfl, fun i hi => absurd hi (Nat.not_lt_zero _)⟩ rfl ⟨rfl, rfl, rfl, rfl, rfl, trivial⟩ [] rfl ?_
  rintro ⟨k, sm, ds⟩ ⟨hk, hsm, hok⟩
  have hk : k ≤ rs.length := hk
  obtain rfl : sm = someRs rs k := hsm
  refine zA ?_
  refine zB ?_
  refine wl_pure Tryz.hT rfl rfl rfl ?_
  refine zC ?_
  refine zE ?_
  refine zA ?_
  refine wc_cond rfl (fun h => ?_) (fun h => ?_)
  rotate_left
  · refine zJ ?_
    refine zK ?_
    refine zK ?_
    refine zL ?_
    refine zE ?_
    refine zA ?_
    refine zB ?_
    refine wl_loadBx 1 Tryz.hT rfl rfl rfl rfl rfl rfl rfl rfl ?_
    refine wl_storeBx 0 Tryz.hT rfl rfl rfl rfl rfl rfl rfl rfl rfl rfl rfl ?_
    refine zC ?_
    refine zE ?_
    refine zO ?_
    refine ne_marks 2 ds rfl ?_
    have e : k = rs.length := by simp at h; omega
    subst e
    have hj : jnd rs = someRs rs rs.length := by
      have : rs.all joinRing = true := List.all_eq_true.2 fun l hl => by
        obtain ⟨i, hi, rfl⟩ := List.getElem_of_mem hl
        have := hok i hi
        rwa [show rg rs i = rs[i] by simp [rg, hi]] at this
      simp [jnd, this]
    exact ne_ret1 Tryz.hT rfl (.cell 0 rfl rfl rfl rfl rfl) () (by rw [hj]) trivial fun W _ => NewBx.nil _ _
  have hk : k < rs.length := by simp at h; omega
  obtain ⟨b', off, rfl, hrow⟩ := hR.row hk
  obtain ⟨q, cap2, hq1, hq2⟩ := hrow k hk
  have hlk : (rg rs k).length < 4611686018427387904 := hl _ (List.mem_of_getElem? (rg_get hk))
  refine zI ?_
  refine zE ?_
  refine zA ?_
  refine zH ?_
  refine zA ?_
  refine zB ?_
  refine wl_indexAddr Tryz.hT rfl rfl rfl rfl rfl rfl rfl (by omega) (by omega) ?_
  refine wl_load rfl rfl rfl rfl (fun W hp => RowAt.load 0 Tryz.hT rfl ((fun W hp => hq1.hp hp) W hp) rfl) ?_
  refine wl_pure Tryz.hT rfl rfl rfl ?_
  refine zC ?_
  refine zE ?_
  refine zA ?_
  refine zB ?_
  refine wl_pure Tryz.hT rfl rfl rfl ?_
  refine wl_call (X := Nat) rfl rfl rfl rfl rfl rfl (by kernel_rfl) (fun W _ => sides_gives q (rg rs k).length cap2 W) ?_
  intro b _
  refine zC ?_
  refine zE ?_
  refine zH ?_
  refine wc_range (X := Bool × Nat) (fun x => [⟨b2, 4, [.bool false], true, none⟩, ⟨b3, 4, [.bool x.1], true, none⟩, bag ds, ⟨b, 27, [slv q (rg rs k).length cap2], true, none⟩])
    (fun j x => x.2 = j ∧ x.1 = someUp (rg rs k) (someRs rs k) j ∧ ∀ i, i < j → joinSide (rg rs k) i = true) (fun c _ => c = .ret ∧ ∃ j, j < (rg rs k).length ∧ joinSide (rg rs k) j = false) (someRs rs k, 0) rfl (by kernel_rfl) (sides_iter b q cap2 (rg rs k) hlk) (fun _ => rfl)
    ⟨rfl, rfl, fun i hi => absurd hi (Nat.not_lt_zero _)⟩ [] rfl (fun k x W _ hp => SidesNeed.mk' hq2 hp 3 rfl) ?_ ?_ ?_
  · rintro j' ⟨sm, j⟩ d L rec hj ⟨e1, e2, hin⟩ hrec
    obtain rfl : j = j' := e1
    obtain rfl : sm = someUp (rg rs k) (someRs rs k) j := e2
    refine zB ?_
    refine wl_alloc (z := arVal default default default) rfl rfl rfl (fun W => by kernel_rfl) fun b7 => ?_
    refine wl_storeBx 6 Tryz.hT rfl rfl rfl rfl rfl rfl rfl rfl rfl rfl rfl ?_
    refine zC ?_
    refine ne_begin 5 hrec rfl ?_
    refine wc_block ?_
    refine wc_cut (X := Unit) (fun _ => [(2, .pointer (some ⟨b2, 0, none⟩)), (3, .pointer (some ⟨b3, 0, none⟩)), (7, .pointer (some ⟨b7, 0, none⟩))])
      (fun _ => [⟨b2, 4, [.bool false], true, none⟩, ⟨b3, 4, [.bool (someUp (rg rs k) (someRs rs k) (j + 1))], true, none⟩, bag ds, ⟨b, 27, [slv q (rg rs k).length cap2], true, none⟩, rawD d, rawL L rec .busy none,
        ⟨b7, 72, (arVal (sd (rg rs k) (prv (rg rs k).length j)) (sd (rg rs k) j) (sd (rg rs k) (nxt (rg rs k).length j))).cells.toList, true, none⟩]) (fun _ => True) ?_ ?_
    · refine wc_region ?_
      refine wl_loadBx 1 Tryz.hT rfl rfl rfl rfl rfl rfl rfl rfl ?_
      refine wl_pure Tryz.hT rfl rfl rfl ?_
      refine wl_part 19 rfl (fun h19 => ?_) (fun h19 => ?_)
      · refine wl_skip rfl rfl ?_
        refine wl_skip rfl rfl ?_
        refine wl_skip rfl rfl ?_
        refine wl_skip rfl rfl ?_
        refine wl_pure Tryz.hT rfl rfl rfl ?_
        refine wl_storeBx 1 Tryz.hT rfl rfl rfl rfl rfl rfl rfl rfl rfl rfl rfl ?_
        refine zC ?_
        refine ne_cut () trivial ⟨rfl, rfl, rfl, trivial⟩ [] ?_
        have h19 : someUp (rg rs k) (someRs rs k) j = true := h19
        have e : someUp (rg rs k) (someRs rs k) (j + 1) = true := by simp [someUp, h19]
        rw [e]; rfl
      · refine wl_pure Tryz.hT rfl rfl rfl ?_
        refine wl_pure Tryz.hT rfl rfl rfl ?_
        refine wl_loadBx 6 Tryz.hT rfl rfl rfl rfl rfl rfl rfl rfl ?_
        refine wl_pure Tryz.hT rfl rfl rfl ?_
        refine wl_pure Tryz.hT rfl rfl rfl ?_
        refine wl_storeBx 1 Tryz.hT rfl rfl rfl rfl rfl rfl rfl rfl rfl rfl rfl ?_
        refine zC ?_
        refine ne_cut () trivial ⟨rfl, rfl, rfl, trivial⟩ [] ?_
        have h19 : someUp (rg rs k) (someRs rs k) j = false := h19
        have e : someUp (rg rs k) (someRs rs k) (j + 1) = !(sd (rg rs k) j).gable := by simp [someUp, h19]
        rw [e]; rfl
    intro _ _
    refine zA ?_
    refine zB ?_
    refine wl_loadBx 6 Tryz.hT rfl rfl rfl rfl rfl rfl rfl rfl ?_
    refine wl_call1 rfl rfl rfl rfl rfl rfl (by kernel_rfl) (fun W _ => left_gives (sd (rg rs k) (prv (rg rs k).length j)) (sd (rg rs k) j) (sd (rg rs k) (nxt (rg rs k).length j)) W) ?_
    refine wl_pure Tryz.hT rfl rfl rfl ?_
    refine wl_pure Tryz.hT rfl rfl rfl ?_
    have good : joinSide (rg rs k) j = true → ∀ i, i < j + 1 → joinSide (rg rs k) i = true := fun hg i hi => by
      by_cases e : i = j
      · subst e; exact hg
      · exact hin i (by show i < j; omega)
    refine wl_part 28 rfl (fun h28 => ?_) (fun h28 => ?_)
    · refine wl_pure Tryz.hT rfl rfl rfl ?_
      refine wl_pure Tryz.hT rfl rfl rfl ?_
      refine wl_loadBx 6 Tryz.hT rfl rfl rfl rfl rfl rfl rfl rfl ?_
      refine wl_pure Tryz.hT rfl rfl rfl ?_
      refine wl_part 32 rfl (fun h32 => ?_) (fun h32 => ?_)
      · refine wl_skip rfl rfl ?_
        refine wl_skip rfl rfl ?_
        refine wl_skip rfl rfl ?_
        refine wl_pure Tryz.hT rfl rfl rfl ?_
        refine wl_pure Tryz.hT rfl rfl rfl ?_
        refine wl_skip rfl rfl ?_
        refine wl_skip rfl rfl ?_
        refine wl_skip rfl rfl ?_
        refine wl_skip rfl rfl ?_
        refine wl_skip rfl rfl ?_
        refine wl_skip rfl rfl ?_
        refine wl_skip rfl rfl ?_
        refine wl_pure Tryz.hT rfl rfl rfl ?_
        refine wl_pure Tryz.hT rfl rfl rfl ?_
        refine zC ?_
        refine zE ?_
        refine zR rfl ?_
        refine zA ?_
        refine zB ?_
        refine wl_storeBx 0 Tryz.hT rfl rfl rfl rfl rfl rfl rfl rfl rfl rfl rfl ?_
        refine zC ?_
        refine zE ?_
        refine zO ?_
        refine zQ ?_
        exact ne_round_ret 5 (someUp (rg rs k) (someRs rs k) (j + 1), j + 1) hrec rfl ⟨rfl, j, hj, by simp_all [joinSide, joinB, leftB]⟩ [_] rfl
      · refine wl_pure Tryz.hT rfl rfl rfl ?_
        refine wl_pure Tryz.hT rfl rfl rfl ?_
        refine wl_loadBx 6 Tryz.hT rfl rfl rfl rfl rfl rfl rfl rfl ?_
        refine wl_pure Tryz.hT rfl rfl rfl ?_
        refine wl_pure Tryz.hT rfl rfl rfl ?_
        refine wl_part 37 rfl (fun h37 => ?_) (fun h37 => ?_)
        · refine wl_skip rfl rfl ?_
          refine wl_skip rfl rfl ?_
          refine wl_skip rfl rfl ?_
          refine wl_skip rfl rfl ?_
          refine wl_skip rfl rfl ?_
          refine wl_skip rfl rfl ?_
          refine wl_skip rfl rfl ?_
          refine wl_pure Tryz.hT rfl rfl rfl ?_
          refine wl_pure Tryz.hT rfl rfl rfl ?_
          refine zC ?_
          refine zE ?_
          refine zR rfl ?_
          refine zA ?_
          refine zB ?_
          refine wl_storeBx 0 Tryz.hT rfl rfl rfl rfl rfl rfl rfl rfl rfl rfl rfl ?_
          refine zC ?_
          refine zE ?_
          refine zO ?_
          refine zQ ?_
          exact ne_round_ret 5 (someUp (rg rs k) (someRs rs k) (j + 1), j + 1) hrec rfl ⟨rfl, j, hj, by simp_all [joinSide, joinB, leftB]⟩ [_] rfl
        · refine wl_pure Tryz.hT rfl rfl rfl ?_
          refine wl_pure Tryz.hT rfl rfl rfl ?_
          refine wl_loadBx 6 Tryz.hT rfl rfl rfl rfl rfl rfl rfl rfl ?_
          refine wl_pure Tryz.hT rfl rfl rfl ?_
          refine wl_pure Tryz.hT rfl rfl rfl ?_
          refine wl_loadBx 6 Tryz.hT rfl rfl rfl rfl rfl rfl rfl rfl ?_
          refine wl_pure Tryz.hT rfl rfl rfl ?_
          refine wl_pure Tryz.hT rfl rfl rfl ?_
          refine wl_pure Tryz.hT rfl rfl rfl ?_
          refine wl_nil ?_
          refine ne_then ?_
          refine wc_cond rfl (fun h => ?_) (fun h => ?_)
          · refine zA ?_
            refine zB ?_
            refine wl_storeBx 0 Tryz.hT rfl rfl rfl rfl rfl rfl rfl rfl rfl rfl rfl ?_
            refine zC ?_
            refine zE ?_
            refine zO ?_
            refine zQ ?_
            exact ne_round_ret 5 (someUp (rg rs k) (someRs rs k) (j + 1), j + 1) hrec rfl ⟨rfl, j, hj, by simp_all [joinSide, joinB, leftB]⟩ [_] rfl
          · refine zI ?_
            refine zN ?_
            exact ne_round 5 (someUp (rg rs k) (someRs rs k) (j + 1), j + 1) hrec rfl ⟨rfl, rfl, good (by simp_all [joinSide, joinB, leftB])⟩ [_] rfl
    · refine wl_skip rfl rfl ?_
      refine wl_skip rfl rfl ?_
      refine wl_skip rfl rfl ?_
      refine wl_skip rfl rfl ?_
      refine wl_skip rfl rfl ?_
      refine wl_skip rfl rfl ?_
      refine wl_skip rfl rfl ?_
      refine wl_skip rfl rfl ?_
      refine wl_skip rfl rfl ?_
      refine wl_skip rfl rfl ?_
      refine wl_skip rfl rfl ?_
      refine wl_skip rfl rfl ?_
      refine wl_skip rfl rfl ?_
      refine wl_skip rfl rfl ?_
      refine wl_skip rfl rfl ?_
      refine wl_skip rfl rfl ?_
      refine wl_skip rfl rfl ?_
      refine wl_pure Tryz.hT rfl rfl rfl ?_
      refine zC ?_
      refine zE ?_
      refine zS rfl ?_
      refine zI ?_
      refine zN ?_
      exact ne_round 5 (someUp (rg rs k) (someRs rs k) (j + 1), j + 1) hrec rfl ⟨rfl, rfl, good (by simp_all [joinSide, joinB, leftB])⟩ [_] rfl
  · rintro ⟨sm, j⟩ d L rec ⟨e1, e2, hin⟩
    obtain rfl : j = (rg rs k).length := e1
    obtain rfl : sm = someUp (rg rs k) (someRs rs k) (rg rs k).length := e2
    refine zN ?_
    refine zN ?_
    refine zE ?_
    refine zB ?_
    refine wl_pure Tryz.hT rfl rfl rfl ?_
    refine wl_pure Tryz.hT rfl rfl rfl ?_
    refine zC ?_
    refine ne_bag 2 4 rfl rfl ?_
    refine ne_loopD (X := Nat × Bool × List Nat) (k + 1, someUp (rg rs k) (someRs rs k) (rg rs k).length, d :: ds) ?_ ?_ rfl ?_ [0, 1, 2] (by decide) rfl
    rotate_left
    · show rs.length - (k + 1) < rs.length - k; omega
    · exact ⟨rfl, rfl, rfl, rfl, congrArg (fun z => some (Value.int .i64 z)) (wrap_id (x := (k : Int) + 1) (by omega) (by omega)), trivial⟩
    refine ⟨hk, rfl, fun i hi => ?_⟩
    by_cases e : i = k
    · subst e
      exact List.all_eq_true.2 fun x hx => hin x (List.mem_range.1 hx)
    · exact hok i (by show i < k; have : i < k + 1 := hi; omega)
  · rintro ⟨sm, j'⟩ d L rec c ⟨rfl, j, hj, hf⟩
    refine zO ?_
    refine zQ ?_
    refine zQ ?_
    refine zP ?_
    refine zP ?_
    refine zQ ?_
    refine zP ?_
    refine ne_bag 2 4 rfl rfl ?_
    refine ne_marks 2 (d :: ds) rfl ?_
    have hj : jnd rs = false := by
      have h1 : joinRing (rg rs k) = false := Bool.eq_false_iff.2 fun h2 => by
        have := List.all_eq_true.1 h2 j (List.mem_range.2 hj)
        rw [hf] at this; cases this
      have : rs.all joinRing = false := Bool.eq_false_iff.2 fun h2 => by
        have := List.all_eq_true.1 h2 _ (List.mem_of_getElem? (rg_get hk))
        rw [h1] at this; cases this
      simp [jnd, this]
    exact ne_ret1 Tryz.hT rfl (.cell 0 rfl rfl rfl rfl rfl) () (by rw [hj]) trivial fun W _ => NewBx.nil _ _
end Go.Proofs.YtnpfkmbcejgnjaaGreatDoor
