/-
  Lemmas that the theorem beamAdds_upto_card needs (part 1 of 1).
-/
import Derived.Test.YtddadjbflgdomaaGreatDoorBqe
namespace Go.Proofs.YtddadjbflgdomaaGreatDoor
theorem sumW_app (a b : List (Rat × Rat)) : sumW (a ++ b) = sumW a + sumW b := by
  induction a with
  | nil => show sumW b = 0 + sumW b; grind
  | cons p a ih => show p.2 + sumW (a ++ b) = p.2 + sumW a + sumW b; rw [ih]; grind
def BmP.plus (a b : BmP) : BmP := ⟨a.len, a.l, a.r, a.fs ++ b.fs, a.ss ++ b.ss⟩
theorem plus_W (a b : BmP) (x : Rat) : sumW ((a.plus b).pts x) = sumW (a.pts x) + sumW (b.pts x) := by
  unfold BmP.pts BmP.plus
  simp only [List.filter_append, List.filterMap_append, sumW_app]
  grind
theorem plus_M (a b : BmP) (x : Rat) : sumM ((a.plus b).pts x) = sumM (a.pts x) + sumM (b.pts x) := by
  unfold BmP.pts BmP.plus
  simp only [List.filter_append, List.filterMap_append, sumM_app]
  grind
theorem plus_total {a b : BmP} (h : a.len = b.len) : (a.plus b).total = a.total + b.total := by
  show sumW ((a.plus b).pts a.len) = sumW (a.pts a.len) + sumW (b.pts b.len)
  rw [plus_W, h]
theorem plus_right {a b : BmP} (h : a.len = b.len) (hl : a.l = b.l) (hr : a.r = b.r) : (a.plus b).right = a.right + b.right := by
  show (sumM ((a.plus b).pts a.len) - a.l * sumW ((a.plus b).pts a.len)) / (a.r - a.l) = (sumM (a.pts a.len) - a.l * sumW (a.pts a.len)) / (a.r - a.l) + (sumM (b.pts b.len) - b.l * sumW (b.pts b.len)) / (b.r - b.l)
  rw [plus_M, plus_W, ← h, ← hl, ← hr]
  grind
theorem plus_left {a b : BmP} (h : a.len = b.len) (hl : a.l = b.l) (hr : a.r = b.r) : (a.plus b).left = a.left + b.left := by
  unfold BmP.left
  rw [plus_total h, plus_right h hl hr]; grind
theorem plus_shear {a b : BmP} (h : a.len = b.len) (hl : a.l = b.l) (hr : a.r = b.r) (x : Rat) : (a.plus b).shear x = a.shear x + b.shear x := by
  show (if a.l ≤ x then (a.plus b).left else 0) + (if a.r ≤ x then (a.plus b).right else 0) - sumW ((a.plus b).pts x) = _
  unfold BmP.shear
  rw [plus_W, plus_left h hl hr, plus_right h hl hr, ← hl, ← hr]
  split <;> split <;> grind
theorem plus_moment {a b : BmP} (h : a.len = b.len) (hl : a.l = b.l) (hr : a.r = b.r) (x : Rat) : (a.plus b).moment x = a.moment x + b.moment x := by
  show (if a.l < x then (a.plus b).left * (x - a.l) else 0) + (if a.r < x then (a.plus b).right * (x - a.r) else 0) - (x * sumW ((a.plus b).pts x) - sumM ((a.plus b).pts x)) = _
  unfold BmP.moment
  rw [plus_W, plus_M, plus_left h hl hr, plus_right h hl hr, ← hl, ← hr]
  split <;> split <;> grind
end Go.Proofs.YtddadjbflgdomaaGreatDoor
namespace Go.Proofs.YtddadjbflgdomaaGreatDoor
open Go Go.RowKit Go.Am Go.Lib
set_option maxRecDepth 10000
-- BOXES 3
set_option maxHeartbeats 4000000 in
theorem growF_gives (W : World) (m : Nat) (hm : m ≤ 1000000) : CallsR Tryz.prog 99 #[.slice none 0 0, .int .i64 (m : Nat)] W (fun V : Vec => V.val 0) (fun V => V.OK 2 0 [] ∧ (0 < m → V.p ≠ none)) (fun V => [V.bx 46 []]) := by
  refine calls_enter (args := [.slice none 0 0, .int .i64 (m : Nat)]) Tryz.func99 rfl rfl rfl ?_
  refine zA ?_
  refine zB ?_
  refine wl_pure Tryz.hT rfl rfl rfl ?_
  refine wl_nil ?_
  refine zE ?_
  iterate 2 refine zA ?_
  refine zB ?_
  iterate 2 refine wl_pure Tryz.hT rfl rfl rfl ?_
  refine wl_nil ?_
  refine zE ?_
  refine zS rfl ?_
  refine zI ?_
  refine zE ?_
  iterate 2 refine zA ?_
  refine zB ?_
  iterate 8 refine wl_pure Tryz.hT rfl rfl rfl ?_
  refine wl_nil ?_
  refine zE ?_
  refine zA ?_
  refine zB ?_
  iterate 2 refine wl_pure Tryz.hT rfl rfl rfl ?_
  refine wl_nil ?_
  refine zE ?_
  have e14 : w64 ((m : Int) - w64 (0 - 0)) = m := by
    have : w64 (0 - 0) = 0 := rfl
    rw [this]; exact (w64_id (by omega) (by omega)).trans (by omega)
  refine wc_upd 16 _ rfl (show Value.bool (decide (w64 ((m : Int) - w64 (0 - 0)) > 0)) = .bool (decide (0 < m)) by rw [e14]; congr 1; simp) ?_
  refine wc_cond rfl (fun h => ?_) (fun h => ?_)
  · have h : 0 < m := by simpa using h
    refine zB ?_
    iterate 3 refine wl_pure Tryz.hT rfl rfl rfl ?_
    refine wl_slice_h 0 Tryz.hT rfl rfl rfl rfl rfl rfl rfl rfl (Nat.le_refl _) ?_
    refine wl_pure Tryz.hT rfl rfl rfl ?_
    refine wl_appendZeros Tryz.vec28 (ku := .i64) (by kernel_rfl) m rfl rfl rfl rfl rfl rfl rfl rfl e14 h (by simp only [maxLen]; omega) (by omega) ?_
    intro V hV hp hj
    iterate 2 refine wl_pure Tryz.hT rfl rfl rfl ?_
    obtain ⟨p, cap, junk⟩ := V
    cases p with
    | none => exact absurd rfl hp
    | some g =>
    refine wl_slice_h (a := some ⟨g, 0, none⟩) (len := m) (cap := cap) 0 Tryz.hT rfl rfl rfl rfl rfl rfl rfl rfl (Nat.zero_le _) ?_
    refine wl_pure Tryz.hT rfl rfl rfl ?_
    refine wl_nil ?_
    refine zE ?_
    refine zA ?_
    refine zB ?_
    iterate 2 refine wl_pure Tryz.hT rfl rfl rfl ?_
    refine wl_nil ?_
    refine zE ?_
    refine zO ?_
    obtain ⟨h1, h2, h3⟩ := hV.cap (by simp)
    refine ne_ret1 Tryz.hT rfl (.tmp rfl) (⟨some g, cap, repL [.string ⟨#[]⟩, .string ⟨#[]⟩] m ++ junk⟩ : Vec) rfl ⟨⟨rfl, (fun h => by cases h), fun _ => ⟨Nat.zero_le _, h2, ?_⟩⟩, fun _ => by simp⟩ fun W hp => NewBx.of_hp1 hp 0 rfl
    show 0 + (repL _ m ++ junk).length = cap * 2
    rw [List.length_append, Nat.zero_add]
    exact h3
  · have h : m = 0 := by simp at h; omega
    subst h
    refine zI ?_
    refine zE ?_
    refine zA ?_
    refine zB ?_
    iterate 2 refine wl_pure Tryz.hT rfl rfl rfl ?_
    refine wl_nil ?_
    refine zE ?_
    refine zO ?_
    exact ne_ret1 Tryz.hT rfl (.tmp rfl) Vec.empty rfl ⟨Vec.OK.empty 2, fun h => absurd h (Nat.lt_irrefl _)⟩ fun W hp => Own.one (fun p hp => by cases hp) List.nodup_nil
set_option maxHeartbeats 8000000 in
theorem concatF_gives (W : World) (b cap : Nat) (p0 p1 : Option Addr) (n0 n1 k0 k1 : Nat) (c0 c1 : List Value) (hrow : RowAt W b 0 [.slice p0 n0 k0, .slice p1 n1 k1]) (h0 : CellsP W p0 c0) (h1 : CellsP W p1 c1) (l0 : c0.length = n0 * 2) (l1 : c1.length = n1 * 2)
    (o0 : ∀ u ∈ c0, u.oneCell' = true) (o1 : ∀ u ∈ c1, u.oneCell' = true) (b0 : n0 ≤ 100000) (b1 : n1 ≤ 100000) :
    CallsR Tryz.prog 60 #[.slice (some ⟨b, 0, none⟩) 2 cap] W (fun V : Vec => V.val (n0 + n1)) (fun V => V.OK 2 (n0 + n1) (c0 ++ c1)) (fun V => [V.bx 46 (c0 ++ c1)]) := by
  refine calls_enter (args := [.slice (some ⟨b, 0, none⟩) 2 cap]) Tryz.func60 rfl rfl rfl ?_
  refine zA ?_
  refine zB ?_
  refine wl_pure Tryz.hT rfl rfl rfl ?_
  refine wl_nil ?_
  refine zE ?_
  refine zA ?_
  refine zB ?_
  refine wl_pure Tryz.hT rfl rfl rfl ?_
  refine wl_nil ?_
  refine zE ?_
  iterate 2 refine zA ?_
  refine zB ?_
  iterate 3 refine wl_pure Tryz.hT rfl rfl rfl ?_
  refine wl_nil ?_
  refine zE ?_
  refine zH ?_
  refine wc_loop (X := Nat) (fun k => [(0, .slice (some ⟨b, 0, none⟩) 2 cap), (3, .int .i64 (T2 n0 n1 k : Nat)), (9, .slice (some ⟨b, 0, none⟩) 2 cap), (10, .int .i64 2), (11, .int .i64 (k : Nat))]) (fun _ => [])
    (fun k => k ≤ 2) (fun k => 2 - k) 0 (Nat.zero_le _) ⟨rfl, rfl, rfl, rfl, rfl, trivial⟩ [] rfl ?_
  intro i hi
  have hi : i = 0 ∨ i = 1 ∨ i = 2 := by have : i ≤ 2 := hi; omega
  rcases hi with rfl | rfl | rfl
  · refine zA ?_
    refine zB ?_
    refine wl_pure Tryz.hT rfl rfl rfl ?_
    refine wl_nil ?_
    refine zE ?_
    refine zA ?_
    refine zR rfl ?_
    refine zI ?_
    refine zE ?_
    refine zA ?_
    refine zH ?_
    refine zA ?_
    refine zB ?_
    refine wl_indexAddr Tryz.hT rfl rfl rfl rfl rfl rfl rfl (by omega) (by omega) ?_
    refine wl_load rfl rfl rfl rfl (fun W hp => RowAt.load 0 Tryz.hT rfl ((fun W hp => hrow.hp hp) W hp) rfl) ?_
    refine wl_pure Tryz.hT rfl rfl rfl ?_
    refine wl_nil ?_
    refine zE ?_
    refine zA ?_
    refine zB ?_
    iterate 4 refine wl_pure Tryz.hT rfl rfl rfl ?_
    refine wl_upd 18 (.int .i64 (T2 n0 n1 1 : Nat)) rfl (congrArg (Value.int .i64) (show w64 ((T2 n0 n1 0 : Nat) + (n0 : Nat)) = (T2 n0 n1 1 : Nat) by have hT0 : T2 n0 n1 0 = 0 := rfl; have hT1 : T2 n0 n1 1 = n0 := rfl; rw [w64_id (by omega) (by omega)]; omega)) ?_
    refine wl_pure Tryz.hT rfl rfl rfl ?_
    refine wl_nil ?_
    refine zE ?_
    refine zA ?_
    refine zB ?_
    iterate 2 refine wl_pure Tryz.hT rfl rfl rfl ?_
    refine wl_nil ?_
    refine zE ?_
    refine zS rfl ?_
    refine zI ?_
    refine zN ?_
    refine zE ?_
    refine zB ?_
    iterate 2 refine wl_pure Tryz.hT rfl rfl rfl ?_
    refine wl_nil ?_
    exact ne_loop 1 (by decide) (by decide) ⟨rfl, rfl, rfl, rfl, rfl, trivial⟩ [] rfl
  · refine zA ?_
    refine zB ?_
    refine wl_pure Tryz.hT rfl rfl rfl ?_
    refine wl_nil ?_
    refine zE ?_
    refine zA ?_
    refine zR rfl ?_
    refine zI ?_
    refine zE ?_
    refine zA ?_
    refine zH ?_
    refine zA ?_
    refine zB ?_
    refine wl_indexAddr Tryz.hT rfl rfl rfl rfl rfl rfl rfl (by omega) (by omega) ?_
    refine wl_load rfl rfl rfl rfl (fun W hp => RowAt.load 1 Tryz.hT rfl ((fun W hp => hrow.hp hp) W hp) rfl) ?_
    refine wl_pure Tryz.hT rfl rfl rfl ?_
    refine wl_nil ?_
    refine zE ?_
    refine zA ?_
    refine zB ?_
    iterate 4 refine wl_pure Tryz.hT rfl rfl rfl ?_
    refine wl_upd 18 (.int .i64 (T2 n0 n1 2 : Nat)) rfl (congrArg (Value.int .i64) (show w64 ((T2 n0 n1 1 : Nat) + (n1 : Nat)) = (T2 n0 n1 2 : Nat) by have hT0 : T2 n0 n1 1 = n0 := rfl; have hT1 : T2 n0 n1 2 = n0 + n1 := rfl; rw [w64_id (by omega) (by omega)]; omega)) ?_
    refine wl_pure Tryz.hT rfl rfl rfl ?_
    refine wl_nil ?_
    refine zE ?_
    refine zA ?_
    refine zB ?_
    iterate 2 refine wl_pure Tryz.hT rfl rfl rfl ?_
    refine wl_nil ?_
    refine zE ?_
    refine zS rfl ?_
    refine zI ?_
    refine zN ?_
    refine zE ?_
    refine zB ?_
    iterate 2 refine wl_pure Tryz.hT rfl rfl rfl ?_
    refine wl_nil ?_
    exact ne_loop 2 (by decide) (by decide) ⟨rfl, rfl, rfl, rfl, rfl, trivial⟩ [] rfl
  refine zA ?_
  refine zB ?_
  refine wl_pure Tryz.hT rfl rfl rfl ?_
  refine wl_nil ?_
  refine zE ?_
  refine zA ?_
  refine zS rfl ?_
  refine zJ ?_
  iterate 2 refine zK ?_
  refine zL ?_
  refine zE ?_
  refine zA ?_
  refine zB ?_
  refine wl_pure Tryz.hT rfl rfl rfl ?_
  refine wl_call (X := Vec) rfl rfl rfl rfl rfl rfl (by kernel_rfl) (fun W _ => growF_gives W (n0 + n1) (by omega)) ?_
  rintro V0 ⟨hV0, hV0p⟩
  refine wl_pure Tryz.hT rfl rfl rfl ?_
  refine wl_nil ?_
  refine zE ?_
  iterate 2 refine zA ?_
  refine zB ?_
  iterate 3 refine wl_pure Tryz.hT rfl rfl rfl ?_
  refine wl_nil ?_
  refine zE ?_
  refine zH ?_
  refine wc_loop (X := Nat × Vec) (fun x => [(6, x.2.val (T2 n0 n1 x.1)), (25, .slice (some ⟨b, 0, none⟩) 2 cap), (26, .int .i64 2), (27, .int .i64 (x.1 : Nat))]) (fun x => [x.2.bx 46 (C2 c0 c1 x.1)])
    (fun x => x.1 ≤ 2 ∧ x.2.OK 2 (T2 n0 n1 x.1) (C2 c0 c1 x.1)) (fun x => 2 - x.1) (0, V0) ⟨Nat.zero_le _, hV0⟩ ⟨rfl, rfl, rfl, rfl, trivial⟩ [] rfl ?_
  rintro ⟨i, V⟩ ⟨hi, hV⟩
  have hi : i = 0 ∨ i = 1 ∨ i = 2 := by have : i ≤ 2 := hi; omega
  rcases hi with rfl | rfl | rfl
  · have hV : V.OK 2 (T2 n0 n1 0) (C2 c0 c1 0) := hV
    have hT0 : T2 n0 n1 0 = 0 := rfl
    have hT1 : T2 n0 n1 1 = n0 := rfl
    refine zA ?_
    refine zB ?_
    refine wl_pure Tryz.hT rfl rfl rfl ?_
    refine wl_nil ?_
    refine zE ?_
    refine zA ?_
    refine zR rfl ?_
    refine zI ?_
    refine zE ?_
    refine zA ?_
    refine zH ?_
    refine zA ?_
    refine zB ?_
    refine wl_indexAddr Tryz.hT rfl rfl rfl rfl rfl rfl rfl (by omega) (by omega) ?_
    refine wl_load rfl rfl rfl rfl (fun W hp => RowAt.load 0 Tryz.hT rfl ((fun W hp => hrow.hp hp) W hp) rfl) ?_
    refine wl_pure Tryz.hT rfl rfl rfl ?_
    refine wl_nil ?_
    refine zE ?_
    refine zB ?_
    iterate 2 refine wl_pure Tryz.hT rfl rfl rfl ?_
    cases p0 with
    | none =>
      have hc := h0.none
      have hn0 : n0 = 0 := by rw [hc, List.length_nil] at l0; omega
      refine wl_upd 31 (.slice (vAdr V) (T2 n0 n1 0) (vCap V)) rfl (vec_val hV) ?_
      refine wl_upd 32 (.slice none 0 k0) rfl (by rw [hn0]) ?_
      refine wl_appendNil Tryz.vec28 rfl rfl rfl rfl rfl rfl rfl rfl (vec_le hV) ?_
      refine wl_upd 33 (V.val (T2 n0 n1 0)) rfl (vec_val hV).symm ?_
      have eT : T2 n0 n1 0 = T2 n0 n1 1 := by omega
      have eC : C2 c0 c1 0 = C2 c0 c1 1 := by show [] = c0; rw [hc]
      rw [eT, eC] at hV
      rw [eT, eC]
      refine wl_pure Tryz.hT rfl rfl rfl ?_
      refine wl_nil ?_
      refine zN ?_
      refine zE ?_
      refine zB ?_
      iterate 2 refine wl_pure Tryz.hT rfl rfl rfl ?_
      refine wl_nil ?_
      exact ne_loop (1, V) ⟨by show 1 ≤ 2; decide, hV⟩ (by show 2 - 1 < 2 - 0; decide) ⟨rfl, rfl, rfl, rfl, trivial⟩ [] rfl
    | some a =>
      refine wl_append (len := T2 n0 n1 0) (V := V) 0 Tryz.vec28 rfl rfl rfl rfl rfl rfl rfl rfl rfl hV l0 (fun W hp j u hj => ?_) o0 (by simp only [maxLen]; omega) (by omega) ?_
      · obtain ⟨ab, ao, asp⟩ := a
        rcases h0 with h | ⟨b', off', e, h⟩
        · rw [h] at hj; simp at hj
        · cases e
          rw [Addr.add_none]
          exact (h.hp hp).get j u hj
      intro V' hV' _
      have eT : T2 n0 n1 0 + n0 = T2 n0 n1 1 := by omega
      have eC : C2 c0 c1 0 ++ c0 = C2 c0 c1 1 := rfl
      rw [eT, eC] at hV'
      rw [eT, eC]
      refine wl_pure Tryz.hT rfl rfl rfl ?_
      refine wl_nil ?_
      refine zN ?_
      refine zE ?_
      refine zB ?_
      iterate 2 refine wl_pure Tryz.hT rfl rfl rfl ?_
      refine wl_nil ?_
      exact ne_loop (1, V') ⟨by show 1 ≤ 2; decide, hV'⟩ (by show 2 - 1 < 2 - 0; decide) ⟨rfl, rfl, rfl, rfl, trivial⟩ [] rfl
  · have hV : V.OK 2 (T2 n0 n1 1) (C2 c0 c1 1) := hV
    have hT0 : T2 n0 n1 1 = n0 := rfl
    have hT1 : T2 n0 n1 2 = n0 + n1 := rfl
    refine zA ?_
    refine zB ?_
    refine wl_pure Tryz.hT rfl rfl rfl ?_
    refine wl_nil ?_
    refine zE ?_
    refine zA ?_
    refine zR rfl ?_
    refine zI ?_
    refine zE ?_
    refine zA ?_
    refine zH ?_
    refine zA ?_
    refine zB ?_
    refine wl_indexAddr Tryz.hT rfl rfl rfl rfl rfl rfl rfl (by omega) (by omega) ?_
    refine wl_load rfl rfl rfl rfl (fun W hp => RowAt.load 1 Tryz.hT rfl ((fun W hp => hrow.hp hp) W hp) rfl) ?_
    refine wl_pure Tryz.hT rfl rfl rfl ?_
    refine wl_nil ?_
    refine zE ?_
    refine zB ?_
    iterate 2 refine wl_pure Tryz.hT rfl rfl rfl ?_
    cases p1 with
    | none =>
      have hc := h1.none
      have hn0 : n1 = 0 := by rw [hc, List.length_nil] at l1; omega
      refine wl_upd 31 (.slice (vAdr V) (T2 n0 n1 1) (vCap V)) rfl (vec_val hV) ?_
      refine wl_upd 32 (.slice none 0 k1) rfl (by rw [hn0]) ?_
      refine wl_appendNil Tryz.vec28 rfl rfl rfl rfl rfl rfl rfl rfl (vec_le hV) ?_
      refine wl_upd 33 (V.val (T2 n0 n1 1)) rfl (vec_val hV).symm ?_
      have eT : T2 n0 n1 1 = T2 n0 n1 2 := by omega
      have eC : C2 c0 c1 1 = C2 c0 c1 2 := by show c0 = c0 ++ c1; rw [hc]; simp
      rw [eT, eC] at hV
      rw [eT, eC]
      refine wl_pure Tryz.hT rfl rfl rfl ?_
      refine wl_nil ?_
      refine zN ?_
      refine zE ?_
      refine zB ?_
      iterate 2 refine wl_pure Tryz.hT rfl rfl rfl ?_
      refine wl_nil ?_
      exact ne_loop (2, V) ⟨by show 2 ≤ 2; decide, hV⟩ (by show 2 - 2 < 2 - 1; decide) ⟨rfl, rfl, rfl, rfl, trivial⟩ [] rfl
    | some a =>
      refine wl_append (len := T2 n0 n1 1) (V := V) 0 Tryz.vec28 rfl rfl rfl rfl rfl rfl rfl rfl rfl hV l1 (fun W hp j u hj => ?_) o1 (by simp only [maxLen]; omega) (by omega) ?_
      · obtain ⟨ab, ao, asp⟩ := a
        rcases h1 with h | ⟨b', off', e, h⟩
        · rw [h] at hj; simp at hj
        · cases e
          rw [Addr.add_none]
          exact (h.hp hp).get j u hj
      intro V' hV' _
      have eT : T2 n0 n1 1 + n1 = T2 n0 n1 2 := by omega
      have eC : C2 c0 c1 1 ++ c1 = C2 c0 c1 2 := rfl
      rw [eT, eC] at hV'
      rw [eT, eC]
      refine wl_pure Tryz.hT rfl rfl rfl ?_
      refine wl_nil ?_
      refine zN ?_
      refine zE ?_
      refine zB ?_
      iterate 2 refine wl_pure Tryz.hT rfl rfl rfl ?_
      refine wl_nil ?_
      exact ne_loop (2, V') ⟨by show 2 ≤ 2; decide, hV'⟩ (by show 2 - 2 < 2 - 1; decide) ⟨rfl, rfl, rfl, rfl, trivial⟩ [] rfl
  refine zA ?_
  refine zB ?_
  refine wl_pure Tryz.hT rfl rfl rfl ?_
  refine wl_nil ?_
  refine zE ?_
  refine zA ?_
  refine zS rfl ?_
  refine zJ ?_
  iterate 2 refine zK ?_
  refine zL ?_
  refine zE ?_
  refine zA ?_
  refine zB ?_
  iterate 2 refine wl_pure Tryz.hT rfl rfl rfl ?_
  refine wl_nil ?_
  refine zE ?_
  refine zO ?_
  exact ne_ret1 Tryz.hT rfl (.tmp rfl) V rfl hV fun W hp => NewBx.of_hp1 hp 0 rfl
set_option maxHeartbeats 4000000 in
theorem growS_gives (W : World) (m : Nat) (hm : m ≤ 1000000) : CallsR Tryz.prog 100 #[.slice none 0 0, .int .i64 (m : Nat)] W (fun V : Vec => V.val 0) (fun V => V.OK 3 0 [] ∧ (0 < m → V.p ≠ none)) (fun V => [V.bx 51 []]) := by
  refine calls_enter (args := [.slice none 0 0, .int .i64 (m : Nat)]) Tryz.func100 rfl rfl rfl ?_
  refine zA ?_
  refine zB ?_
  refine wl_pure Tryz.hT rfl rfl rfl ?_
  refine wl_nil ?_
  refine zE ?_
  iterate 2 refine zA ?_
  refine zB ?_
  iterate 2 refine wl_pure Tryz.hT rfl rfl rfl ?_
  refine wl_nil ?_
  refine zE ?_
  refine zS rfl ?_
  refine zI ?_
  refine zE ?_
  iterate 2 refine zA ?_
  refine zB ?_
  iterate 8 refine wl_pure Tryz.hT rfl rfl rfl ?_
  refine wl_nil ?_
  refine zE ?_
  refine zA ?_
  refine zB ?_
  iterate 2 refine wl_pure Tryz.hT rfl rfl rfl ?_
  refine wl_nil ?_
  refine zE ?_
  have e14 : w64 ((m : Int) - w64 (0 - 0)) = m := by
    have : w64 (0 - 0) = 0 := rfl
    rw [this]; exact (w64_id (by omega) (by omega)).trans (by omega)
  refine wc_upd 16 _ rfl (show Value.bool (decide (w64 ((m : Int) - w64 (0 - 0)) > 0)) = .bool (decide (0 < m)) by rw [e14]; congr 1; simp) ?_
  refine wc_cond rfl (fun h => ?_) (fun h => ?_)
  · have h : 0 < m := by simpa using h
    refine zB ?_
    iterate 3 refine wl_pure Tryz.hT rfl rfl rfl ?_
    refine wl_slice_h 0 Tryz.hT rfl rfl rfl rfl rfl rfl rfl rfl (Nat.le_refl _) ?_
    refine wl_pure Tryz.hT rfl rfl rfl ?_
    refine wl_appendZeros Tryz.vec29 (ku := .i64) (by kernel_rfl) m rfl rfl rfl rfl rfl rfl rfl rfl e14 h (by simp only [maxLen]; omega) (by omega) ?_
    intro V hV hp hj
    iterate 2 refine wl_pure Tryz.hT rfl rfl rfl ?_
    obtain ⟨p, cap, junk⟩ := V
    cases p with
    | none => exact absurd rfl hp
    | some g =>
    refine wl_slice_h (a := some ⟨g, 0, none⟩) (len := m) (cap := cap) 0 Tryz.hT rfl rfl rfl rfl rfl rfl rfl rfl (Nat.zero_le _) ?_
    refine wl_pure Tryz.hT rfl rfl rfl ?_
    refine wl_nil ?_
    refine zE ?_
    refine zA ?_
    refine zB ?_
    iterate 2 refine wl_pure Tryz.hT rfl rfl rfl ?_
    refine wl_nil ?_
    refine zE ?_
    refine zO ?_
    obtain ⟨h1, h2, h3⟩ := hV.cap (by simp)
    refine ne_ret1 Tryz.hT rfl (.tmp rfl) (⟨some g, cap, repL [.string ⟨#[]⟩, .string ⟨#[]⟩, .string ⟨#[]⟩] m ++ junk⟩ : Vec) rfl ⟨⟨rfl, (fun h => by cases h), fun _ => ⟨Nat.zero_le _, h2, ?_⟩⟩, fun _ => by simp⟩ fun W hp => NewBx.of_hp1 hp 0 rfl
    show 0 + (repL _ m ++ junk).length = cap * 3
    rw [List.length_append, Nat.zero_add]
    exact h3
  · have h : m = 0 := by simp at h; omega
    subst h
    refine zI ?_
    refine zE ?_
    refine zA ?_
    refine zB ?_
    iterate 2 refine wl_pure Tryz.hT rfl rfl rfl ?_
    refine wl_nil ?_
    refine zE ?_
    refine zO ?_
    exact ne_ret1 Tryz.hT rfl (.tmp rfl) Vec.empty rfl ⟨Vec.OK.empty 3, fun h => absurd h (Nat.lt_irrefl _)⟩ fun W hp => Own.one (fun p hp => by cases hp) List.nodup_nil
set_option maxHeartbeats 8000000 in
theorem concatS_gives (W : World) (b cap : Nat) (p0 p1 : Option Addr) (n0 n1 k0 k1 : Nat) (c0 c1 : List Value) (hrow : RowAt W b 0 [.slice p0 n0 k0, .slice p1 n1 k1]) (h0 : CellsP W p0 c0) (h1 : CellsP W p1 c1) (l0 : c0.length = n0 * 3) (l1 : c1.length = n1 * 3)
    (o0 : ∀ u ∈ c0, u.oneCell' = true) (o1 : ∀ u ∈ c1, u.oneCell' = true) (b0 : n0 ≤ 100000) (b1 : n1 ≤ 100000) :
    CallsR Tryz.prog 61 #[.slice (some ⟨b, 0, none⟩) 2 cap] W (fun V : Vec => V.val (n0 + n1)) (fun V => V.OK 3 (n0 + n1) (c0 ++ c1)) (fun V => [V.bx 51 (c0 ++ c1)]) := by
  refine calls_enter (args := [.slice (some ⟨b, 0, none⟩) 2 cap]) Tryz.func61 rfl rfl rfl ?_
  refine zA ?_
  refine zB ?_
  refine wl_pure Tryz.hT rfl rfl rfl ?_
  refine wl_nil ?_
  refine zE ?_
  refine zA ?_
  refine zB ?_
  refine wl_pure Tryz.hT rfl rfl rfl ?_
  refine wl_nil ?_
  refine zE ?_
  iterate 2 refine zA ?_
  refine zB ?_
  iterate 3 refine wl_pure Tryz.hT rfl rfl rfl ?_
  refine wl_nil ?_
  refine zE ?_
  refine zH ?_
  refine wc_loop (X := Nat) (fun k => [(0, .slice (some ⟨b, 0, none⟩) 2 cap), (3, .int .i64 (T2 n0 n1 k : Nat)), (9, .slice (some ⟨b, 0, none⟩) 2 cap), (10, .int .i64 2), (11, .int .i64 (k : Nat))]) (fun _ => [])
    (fun k => k ≤ 2) (fun k => 2 - k) 0 (Nat.zero_le _) ⟨rfl, rfl, rfl, rfl, rfl, trivial⟩ [] rfl ?_
  intro i hi
  have hi : i = 0 ∨ i = 1 ∨ i = 2 := by have : i ≤ 2 := hi; omega
  rcases hi with rfl | rfl | rfl
  · refine zA ?_
    refine zB ?_
    refine wl_pure Tryz.hT rfl rfl rfl ?_
    refine wl_nil ?_
    refine zE ?_
    refine zA ?_
    refine zR rfl ?_
    refine zI ?_
    refine zE ?_
    refine zA ?_
    refine zH ?_
    refine zA ?_
    refine zB ?_
    refine wl_indexAddr Tryz.hT rfl rfl rfl rfl rfl rfl rfl (by omega) (by omega) ?_
    refine wl_load rfl rfl rfl rfl (fun W hp => RowAt.load 0 Tryz.hT rfl ((fun W hp => hrow.hp hp) W hp) rfl) ?_
    refine wl_pure Tryz.hT rfl rfl rfl ?_
    refine wl_nil ?_
    refine zE ?_
    refine zA ?_
    refine zB ?_
    iterate 4 refine wl_pure Tryz.hT rfl rfl rfl ?_
    refine wl_upd 18 (.int .i64 (T2 n0 n1 1 : Nat)) rfl (congrArg (Value.int .i64) (show w64 ((T2 n0 n1 0 : Nat) + (n0 : Nat)) = (T2 n0 n1 1 : Nat) by have hT0 : T2 n0 n1 0 = 0 := rfl; have hT1 : T2 n0 n1 1 = n0 := rfl; rw [w64_id (by omega) (by omega)]; omega)) ?_
    refine wl_pure Tryz.hT rfl rfl rfl ?_
    refine wl_nil ?_
    refine zE ?_
    refine zA ?_
    refine zB ?_
    iterate 2 refine wl_pure Tryz.hT rfl rfl rfl ?_
    refine wl_nil ?_
    refine zE ?_
    refine zS rfl ?_
    refine zI ?_
    refine zN ?_
    refine zE ?_
    refine zB ?_
    iterate 2 refine wl_pure Tryz.hT rfl rfl rfl ?_
    refine wl_nil ?_
    exact ne_loop 1 (by decide) (by decide) ⟨rfl, rfl, rfl, rfl, rfl, trivial⟩ [] rfl
  · refine zA ?_
    refine zB ?_
    refine wl_pure Tryz.hT rfl rfl rfl ?_
    refine wl_nil ?_
    refine zE ?_
    refine zA ?_
    refine zR rfl ?_
    refine zI ?_
    refine zE ?_
    refine zA ?_
    refine zH ?_
    refine zA ?_
    refine zB ?_
    refine wl_indexAddr Tryz.hT rfl rfl rfl rfl rfl rfl rfl (by omega) (by omega) ?_
    refine wl_load rfl rfl rfl rfl (fun W hp => RowAt.load 1 Tryz.hT rfl ((fun W hp => hrow.hp hp) W hp) rfl) ?_
    refine wl_pure Tryz.hT rfl rfl rfl ?_
    refine wl_nil ?_
    refine zE ?_
    refine zA ?_
    refine zB ?_
    iterate 4 refine wl_pure Tryz.hT rfl rfl rfl ?_
    refine wl_upd 18 (.int .i64 (T2 n0 n1 2 : Nat)) rfl (congrArg (Value.int .i64) (show w64 ((T2 n0 n1 1 : Nat) + (n1 : Nat)) = (T2 n0 n1 2 : Nat) by have hT0 : T2 n0 n1 1 = n0 := rfl; have hT1 : T2 n0 n1 2 = n0 + n1 := rfl; rw [w64_id (by omega) (by omega)]; omega)) ?_
    refine wl_pure Tryz.hT rfl rfl rfl ?_
    refine wl_nil ?_
    refine zE ?_
    refine zA ?_
    refine zB ?_
    iterate 2 refine wl_pure Tryz.hT rfl rfl rfl ?_
    refine wl_nil ?_
    refine zE ?_
    refine zS rfl ?_
    refine zI ?_
    refine zN ?_
    refine zE ?_
    refine zB ?_
    iterate 2 refine wl_pure Tryz.hT rfl rfl rfl ?_
    refine wl_nil ?_
    exact ne_loop 2 (by decide) (by decide) ⟨rfl, rfl, rfl, rfl, rfl, trivial⟩ [] rfl
  refine zA ?_
  refine zB ?_
  refine wl_pure Tryz.hT rfl rfl rfl ?_
  refine wl_nil ?_
  refine zE ?_
  refine zA ?_
  refine zS rfl ?_
  refine zJ ?_
  iterate 2 refine zK ?_
  refine zL ?_
  refine zE ?_
  refine zA ?_
  refine zB ?_
  refine wl_pure Tryz.hT rfl rfl rfl ?_
  refine wl_call (X := Vec) rfl rfl rfl rfl rfl rfl (by kernel_rfl) (fun W _ => growS_gives W (n0 + n1) (by omega)) ?_
  rintro V0 ⟨hV0, hV0p⟩
  refine wl_pure Tryz.hT rfl rfl rfl ?_
  refine wl_nil ?_
  refine zE ?_
  iterate 2 refine zA ?_
  refine zB ?_
  iterate 3 refine wl_pure Tryz.hT rfl rfl rfl ?_
  refine wl_nil ?_
  refine zE ?_
  refine zH ?_
  refine wc_loop (X := Nat × Vec) (fun x => [(6, x.2.val (T2 n0 n1 x.1)), (25, .slice (some ⟨b, 0, none⟩) 2 cap), (26, .int .i64 2), (27, .int .i64 (x.1 : Nat))]) (fun x => [x.2.bx 51 (C2 c0 c1 x.1)])
    (fun x => x.1 ≤ 2 ∧ x.2.OK 3 (T2 n0 n1 x.1) (C2 c0 c1 x.1)) (fun x => 2 - x.1) (0, V0) ⟨Nat.zero_le _, hV0⟩ ⟨rfl, rfl, rfl, rfl, trivial⟩ [] rfl ?_
  rintro ⟨i, V⟩ ⟨hi, hV⟩
  have hi : i = 0 ∨ i = 1 ∨ i = 2 := by have : i ≤ 2 := hi; omega
  rcases hi with rfl | rfl | rfl
  · have hV : V.OK 3 (T2 n0 n1 0) (C2 c0 c1 0) := hV
    have hT0 : T2 n0 n1 0 = 0 := rfl
    have hT1 : T2 n0 n1 1 = n0 := rfl
    refine zA ?_
    refine zB ?_
    refine wl_pure Tryz.hT rfl rfl rfl ?_
    refine wl_nil ?_
    refine zE ?_
    refine zA ?_
    refine zR rfl ?_
    refine zI ?_
    refine zE ?_
    refine zA ?_
    refine zH ?_
    refine zA ?_
    refine zB ?_
    refine wl_indexAddr Tryz.hT rfl rfl rfl rfl rfl rfl rfl (by omega) (by omega) ?_
    refine wl_load rfl rfl rfl rfl (fun W hp => RowAt.load 0 Tryz.hT rfl ((fun W hp => hrow.hp hp) W hp) rfl) ?_
    refine wl_pure Tryz.hT rfl rfl rfl ?_
    refine wl_nil ?_
    refine zE ?_
    refine zB ?_
    iterate 2 refine wl_pure Tryz.hT rfl rfl rfl ?_
    cases p0 with
    | none =>
      have hc := h0.none
      have hn0 : n0 = 0 := by rw [hc, List.length_nil] at l0; omega
      refine wl_upd 31 (.slice (vAdr V) (T2 n0 n1 0) (vCap V)) rfl (vec_val hV) ?_
      refine wl_upd 32 (.slice none 0 k0) rfl (by rw [hn0]) ?_
      refine wl_appendNil Tryz.vec29 rfl rfl rfl rfl rfl rfl rfl rfl (vec_le hV) ?_
      refine wl_upd 33 (V.val (T2 n0 n1 0)) rfl (vec_val hV).symm ?_
      have eT : T2 n0 n1 0 = T2 n0 n1 1 := by omega
      have eC : C2 c0 c1 0 = C2 c0 c1 1 := by show [] = c0; rw [hc]
      rw [eT, eC] at hV
      rw [eT, eC]
      refine wl_pure Tryz.hT rfl rfl rfl ?_
      refine wl_nil ?_
      refine zN ?_
      refine zE ?_
      refine zB ?_
      iterate 2 refine wl_pure Tryz.hT rfl rfl rfl ?_
      refine wl_nil ?_
      exact ne_loop (1, V) ⟨by show 1 ≤ 2; decide, hV⟩ (by show 2 - 1 < 2 - 0; decide) ⟨rfl, rfl, rfl, rfl, trivial⟩ [] rfl
    | some a =>
      refine wl_append (len := T2 n0 n1 0) (V := V) 0 Tryz.vec29 rfl rfl rfl rfl rfl rfl rfl rfl rfl hV l0 (fun W hp j u hj => ?_) o0 (by simp only [maxLen]; omega) (by omega) ?_
      · obtain ⟨ab, ao, asp⟩ := a
        rcases h0 with h | ⟨b', off', e, h⟩
        · rw [h] at hj; simp at hj
        · cases e
          rw [Addr.add_none]
          exact (h.hp hp).get j u hj
      intro V' hV' _
      have eT : T2 n0 n1 0 + n0 = T2 n0 n1 1 := by omega
      have eC : C2 c0 c1 0 ++ c0 = C2 c0 c1 1 := rfl
      rw [eT, eC] at hV'
      rw [eT, eC]
      refine wl_pure Tryz.hT rfl rfl rfl ?_
      refine wl_nil ?_
      refine zN ?_
      refine zE ?_
      refine zB ?_
      iterate 2 refine wl_pure Tryz.hT rfl rfl rfl ?_
      refine wl_nil ?_
      exact ne_loop (1, V') ⟨by show 1 ≤ 2; decide, hV'⟩ (by show 2 - 1 < 2 - 0; decide) ⟨rfl, rfl, rfl, rfl, trivial⟩ [] rfl
  · have hV : V.OK 3 (T2 n0 n1 1) (C2 c0 c1 1) := hV
    have hT0 : T2 n0 n1 1 = n0 := rfl
    have hT1 : T2 n0 n1 2 = n0 + n1 := rfl
    refine zA ?_
    refine zB ?_
    refine wl_pure Tryz.hT rfl rfl rfl ?_
    refine wl_nil ?_
    refine zE ?_
    refine zA ?_
    refine zR rfl ?_
    refine zI ?_
    refine zE ?_
    refine zA ?_
    refine zH ?_
    refine zA ?_
    refine zB ?_
    refine wl_indexAddr Tryz.hT rfl rfl rfl rfl rfl rfl rfl (by omega) (by omega) ?_
    refine wl_load rfl rfl rfl rfl (fun W hp => RowAt.load 1 Tryz.hT rfl ((fun W hp => hrow.hp hp) W hp) rfl) ?_
    refine wl_pure Tryz.hT rfl rfl rfl ?_
    refine wl_nil ?_
    refine zE ?_
    refine zB ?_
    iterate 2 refine wl_pure Tryz.hT rfl rfl rfl ?_
    cases p1 with
    | none =>
      have hc := h1.none
      have hn0 : n1 = 0 := by rw [hc, List.length_nil] at l1; omega
      refine wl_upd 31 (.slice (vAdr V) (T2 n0 n1 1) (vCap V)) rfl (vec_val hV) ?_
      refine wl_upd 32 (.slice none 0 k1) rfl (by rw [hn0]) ?_
      refine wl_appendNil Tryz.vec29 rfl rfl rfl rfl rfl rfl rfl rfl (vec_le hV) ?_
      refine wl_upd 33 (V.val (T2 n0 n1 1)) rfl (vec_val hV).symm ?_
      have eT : T2 n0 n1 1 = T2 n0 n1 2 := by omega
      have eC : C2 c0 c1 1 = C2 c0 c1 2 := by show c0 = c0 ++ c1; rw [hc]; simp
      rw [eT, eC] at hV
      rw [eT, eC]
      refine wl_pure Tryz.hT rfl rfl rfl ?_
      refine wl_nil ?_
      refine zN ?_
      refine zE ?_
      refine zB ?_
      iterate 2 refine wl_pure Tryz.hT rfl rfl rfl ?_
      refine wl_nil ?_
      exact ne_loop (2, V) ⟨by show 2 ≤ 2; decide, hV⟩ (by show 2 - 2 < 2 - 1; decide) ⟨rfl, rfl, rfl, rfl, trivial⟩ [] rfl
    | some a =>
      refine wl_append (len := T2 n0 n1 1) (V := V) 0 Tryz.vec29 rfl rfl rfl rfl rfl rfl rfl rfl rfl hV l1 (fun W hp j u hj => ?_) o1 (by simp only [maxLen]; omega) (by omega) ?_
      · obtain ⟨ab, ao, asp⟩ := a
        rcases h1 with h | ⟨b', off', e, h⟩
        · rw [h] at hj; simp at hj
        · cases e
          rw [Addr.add_none]
          exact (h.hp hp).get j u hj
      intro V' hV' _
      have eT : T2 n0 n1 1 + n1 = T2 n0 n1 2 := by omega
      have eC : C2 c0 c1 1 ++ c1 = C2 c0 c1 2 := rfl
      rw [eT, eC] at hV'
      rw [eT, eC]
      refine wl_pure Tryz.hT rfl rfl rfl ?_
      refine wl_nil ?_
      refine zN ?_
      refine zE ?_
      refine zB ?_
      iterate 2 refine wl_pure Tryz.hT rfl rfl rfl ?_
      refine wl_nil ?_
      exact ne_loop (2, V') ⟨by show 2 ≤ 2; decide, hV'⟩ (by show 2 - 2 < 2 - 1; decide) ⟨rfl, rfl, rfl, rfl, trivial⟩ [] rfl
  refine zA ?_
  refine zB ?_
  refine wl_pure Tryz.hT rfl rfl rfl ?_
  refine wl_nil ?_
  refine zE ?_
  refine zA ?_
  refine zS rfl ?_
  refine zJ ?_
  iterate 2 refine zK ?_
  refine zL ?_
  refine zE ?_
  refine zA ?_
  refine zB ?_
  iterate 2 refine wl_pure Tryz.hT rfl rfl rfl ?_
  refine wl_nil ?_
  refine zE ?_
  refine zO ?_
  exact ne_ret1 Tryz.hT rfl (.tmp rfl) V rfl hV fun W hp => NewBx.of_hp1 hp 0 rfl
end Go.Proofs.YtddadjbflgdomaaGreatDoor
namespace Go.Proofs.YtddadjbflgdomaaGreatDoor
set_option maxRecDepth 10000
theorem InD.ofN (z : Int) {D M : Nat} (hD : 0 < D) (h : z.natAbs ≤ M) : InD D M (nrm z (D : Int)) := ⟨z, by rw [nrm_div z (by omega), Rat.divInt_eq_div]; rfl, h⟩
theorem BmG.plus {a b : BmP} (ha : BmG a) (hb : BmG b) (hl : a.len = b.len) (hfn : a.fs.length + b.fs.length ≤ 10) (hsn : a.ss.length + b.ss.length ≤ 8) : BmG (a.plus b) := by
  have h1 := ha.hf
  have h2 := hb.hf
  have L1 := ha.lies
  have L2 := hb.lies
  have fm : ∀ {P : Rat × Rat → Prop}, (∀ f ∈ a.fs, P f) → (∀ f ∈ b.fs, P f) → ∀ f ∈ (a.plus b).fs, P f := fun hx hy f hm => (List.mem_append.1 hm).elim (hx f) (hy f)
  have sm : ∀ {P : Rat × Rat × Rat → Prop}, (∀ f ∈ a.ss, P f) → (∀ f ∈ b.ss, P f) → ∀ f ∈ (a.plus b).ss, P f := fun hx hy f hm => (List.mem_append.1 hm).elim (hx f) (hy f)
  refine ⟨⟨h1.len, h1.l, h1.r, fm h1.f1 h2.f1, fm h1.f2 h2.f2, sm h1.s1 h2.s1, sm h1.s2 h2.s2, sm h1.s3 h2.s3, ?_, ?_⟩, ⟨L1.len, L1.l0, L1.lr, L1.r1, fm L1.f0 L2.f0, fm L1.f1 fun f hm => ?_, sm L1.s0 L2.s0, sm L1.s1 L2.s1, sm L1.s2 fun s hm => ?_⟩, ?_⟩
  · show (a.fs ++ b.fs).length ≤ 10; rw [List.length_append]; exact hfn
  · show (a.ss ++ b.ss).length ≤ 8; rw [List.length_append]; exact hsn
  · show f.1 ≤ a.len; rw [hl]; exact L2.f1 f hm
  · show s.2.1 ≤ a.len; rw [hl]; exact L2.s2 s hm
  · obtain ⟨c, hc⟩ := ha.span
    exact ⟨c, hc.pos, hc.le, hc.eq⟩
end Go.Proofs.YtddadjbflgdomaaGreatDoor
namespace Go.Proofs.YtddadjbflgdomaaGreatDoor
open Go Go.RowKit Go.Am Go.Lib
set_option maxRecDepth 10000
-- BOXES 8
-- CODE2
theorem foC_one (l : List (Rat × Rat)) : ∀ u ∈ foC l, u.oneCell' = true := fun u hu => by
  obtain ⟨f, _, h⟩ := List.mem_flatMap.1 hu
  simp at h
  rcases h with rfl | rfl <;> rfl
theorem spC_one (l : List (Rat × Rat × Rat)) : ∀ u ∈ spC l, u.oneCell' = true := fun u hu => by
  obtain ⟨f, _, h⟩ := List.mem_flatMap.1 hu
  simp at h
  rcases h with rfl | rfl | rfl <;> rfl
set_option maxHeartbeats 32000000 in
theorem bAdd_gives (a b : BmP) (ha : BmC a) (hb : BmC b) (hl : a.len = b.len) (h1 : a.l = b.l) (h2 : a.r = b.r) (hnf : a.fs.length + b.fs.length ≤ 64) (hns : a.ss.length + b.ss.length ≤ 64) (p q p' q' : Option Addr) (m n m' n' : Nat) (W : World) (hM : BmM W a p q) (hM' : BmM W b p' q')
    (c1 : CellsP W p (foC a.fs)) (c2 : CellsP W q (spC a.ss)) (c3 : CellsP W p' (foC b.fs)) (c4 : CellsP W q' (spC b.ss)) :
    CallsR Tryz.prog 26 #[bmV a p m q n, bmV b p' m' q' n'] W (fun V : BmV (a.plus b) => .tuple #[V.val, .int .i64 0]) (fun _ => True) (fun V => [V.bf, V.bs]) := by
  have hv := hM.v
  have ht := hM.t
  refine calls_enter (args := [bmV a p m q n, bmV b p' m' q' n']) Tryz.func26 rfl rfl rfl ?_
  refine zA ?_
  refine zB ?_
  (refine wl_box rfl rfl rfl rfl ?_; intro)
  (refine wl_box rfl rfl rfl rfl ?_; intro)
  (refine wl_allocZ Tryz.hZ rfl rfl rfl rfl ?_; intro)
  refine wl_pure Tryz.hT rfl rfl rfl ?_
  refine wl_nil ?_
  rename_i b2 b3 b4
  refine zE ?_
  refine zA ?_
  refine zH ?_
  refine zA ?_
  refine zB ?_
  refine wl_loadBx 0 Tryz.hT rfl rfl rfl rfl rfl rfl rfl rfl ?_
  refine wl_call1 rfl rfl rfl rfl rfl rfl (by kernel_rfl) (fun W hp => bcheck_gives a ha p q m n W (hM.hp hp)) ?_
  iterate 2 refine wl_pure Tryz.hT rfl rfl rfl ?_
  refine wl_loadBx 1 Tryz.hT rfl rfl rfl rfl rfl rfl rfl rfl ?_
  refine wl_call1 rfl rfl rfl rfl rfl rfl (by kernel_rfl) (fun W hp => bcheck_gives b hb p' q' m' n' W (hM'.hp hp)) ?_
  iterate 3 refine wl_pure Tryz.hT rfl rfl rfl ?_
  refine wl_nil ?_
  refine zE ?_
  refine zS rfl ?_
  refine zA ?_
  refine zB ?_
  refine wl_pure Tryz.hT rfl rfl rfl ?_
  refine wl_loadBx 0 Tryz.hT rfl rfl rfl rfl rfl rfl rfl rfl ?_
  refine wl_pure Tryz.hT rfl rfl rfl ?_
  refine wl_loadBx 1 Tryz.hT rfl rfl rfl rfl rfl rfl rfl rfl ?_
  refine wl_upd 20 (str (numS a.len)) rfl (by rw [hl]) ?_
  refine wl_pure Tryz.hT rfl rfl rfl ?_
  refine wl_upd 21 (.bool false) rfl (congrArg Value.bool (by show (!_) = false; rw [strEqB, decide_eq_true rfl]; rfl)) ?_
  iterate 2 refine wl_pure Tryz.hT rfl rfl rfl ?_
  refine wl_loadBx 0 Tryz.hT rfl rfl rfl rfl rfl rfl rfl rfl ?_
  refine wl_pure Tryz.hT rfl rfl rfl ?_
  refine wl_loadBx 1 Tryz.hT rfl rfl rfl rfl rfl rfl rfl rfl ?_
  refine wl_upd 26 (str (numS a.l)) rfl (by rw [h1]) ?_
  refine wl_pure Tryz.hT rfl rfl rfl ?_
  refine wl_upd 27 (.bool false) rfl (congrArg Value.bool (by show (!_) = false; rw [strEqB, decide_eq_true rfl]; rfl)) ?_
  iterate 3 refine wl_pure Tryz.hT rfl rfl rfl ?_
  refine wl_loadBx 0 Tryz.hT rfl rfl rfl rfl rfl rfl rfl rfl ?_
  refine wl_pure Tryz.hT rfl rfl rfl ?_
  refine wl_loadBx 1 Tryz.hT rfl rfl rfl rfl rfl rfl rfl rfl ?_
  refine wl_upd 33 (str (numS a.r)) rfl (by rw [h2]) ?_
  refine wl_pure Tryz.hT rfl rfl rfl ?_
  refine wl_upd 34 (.bool false) rfl (congrArg Value.bool (by show (!_) = false; rw [strEqB, decide_eq_true rfl]; rfl)) ?_
  iterate 2 refine wl_pure Tryz.hT rfl rfl rfl ?_
  refine wl_nil ?_
  refine zE ?_
  refine zS rfl ?_
  refine zA ?_
  refine zB ?_
  refine wl_pure Tryz.hT rfl rfl rfl ?_
  refine wl_loadBx 0 Tryz.hT rfl rfl rfl rfl rfl rfl rfl rfl ?_
  iterate 2 refine wl_pure Tryz.hT rfl rfl rfl ?_
  refine wl_loadBx 1 Tryz.hT rfl rfl rfl rfl rfl rfl rfl rfl ?_
  iterate 2 refine wl_pure Tryz.hT rfl rfl rfl ?_
  refine wl_upd 44 (.int .i64 ((a.fs.length + b.fs.length : Nat) : Int)) rfl (congrArg (Value.int .i64) (show w64 ((a.fs.length : Nat) + (b.fs.length : Nat)) = _ by rw [w64_id (by omega) (by omega)]; omega)) ?_
  refine wl_pure Tryz.hT rfl rfl rfl ?_
  refine wl_upd 45 (.bool false) rfl (congrArg Value.bool (decide_eq_false (by omega))) ?_
  iterate 2 refine wl_pure Tryz.hT rfl rfl rfl ?_
  refine wl_loadBx 0 Tryz.hT rfl rfl rfl rfl rfl rfl rfl rfl ?_
  iterate 2 refine wl_pure Tryz.hT rfl rfl rfl ?_
  refine wl_loadBx 1 Tryz.hT rfl rfl rfl rfl rfl rfl rfl rfl ?_
  iterate 2 refine wl_pure Tryz.hT rfl rfl rfl ?_
  refine wl_upd 53 (.int .i64 ((a.ss.length + b.ss.length : Nat) : Int)) rfl (congrArg (Value.int .i64) (show w64 ((a.ss.length : Nat) + (b.ss.length : Nat)) = _ by rw [w64_id (by omega) (by omega)]; omega)) ?_
  refine wl_pure Tryz.hT rfl rfl rfl ?_
  refine wl_upd 54 (.bool false) rfl (congrArg Value.bool (decide_eq_false (by omega))) ?_
  iterate 2 refine wl_pure Tryz.hT rfl rfl rfl ?_
  refine wl_nil ?_
  refine zE ?_
  refine zS rfl ?_
  refine zI ?_
  refine zN ?_
  refine zE ?_
  refine wc_seq ?_
  refine wc_lateY (X := BmV (a.plus b)) [true, true, true, true, false, false, true, true, true, true, false, false, false, false, false, false] (fun _ => [(2, selfP b2), (4, selfP b4)]) (fun V => [⟨b2, 31, [str (numS a.len), str (numS a.l), str (numS a.r), .slice (vAdr V.f) (a.fs.length + b.fs.length) (vCap V.f), .slice (vAdr V.s) (a.ss.length + b.ss.length) (vCap V.s)], true, none⟩, bm0 b4, V.bf, V.bs])
      8 [bmB b2 a p m q n, bmB b3 b p' m' q' n', bm0 b4] Tryz.mixed (by kernel_rfl) ?_ ?_
  · refine wq_pure Tryz.hT rfl rfl rfl ?_
    refine wq_loadBx 0 Tryz.hT rfl rfl rfl rfl rfl rfl rfl rfl ?_
    refine wq_pure Tryz.hT rfl rfl rfl ?_
    refine wq_loadBx 1 Tryz.hT rfl rfl rfl rfl rfl rfl rfl rfl ?_
    refine wq_pure Tryz.hT rfl rfl rfl ?_
    refine wq_loadBx 0 Tryz.hT rfl rfl rfl rfl rfl rfl rfl rfl ?_
    refine wq_pure Tryz.hT rfl rfl rfl ?_
    refine wq_loadBx 1 Tryz.hT rfl rfl rfl rfl rfl rfl rfl rfl ?_
    refine wq_wt ?_
    have hbf : foC (a.plus b).fs = foC a.fs ++ foC b.fs := foC_app _ _
    have hbs : spC (a.plus b).ss = spC a.ss ++ spC b.ss := spC_app _ _
    have lf : (a.plus b).fs.length = a.fs.length + b.fs.length := List.length_append
    have ls : (a.plus b).ss.length = a.ss.length + b.ss.length := List.length_append
    refine wt_step rfl rfl (by ((repeat (first | refine Weak.same ?_ | refine Weak.off rfl ?_)); exact trivial)) ?_
    refine RS.cons ?_ (RS.cons ?_ (RS.nil))
    · refine wl_buildRowZ Tryz.hZ Tryz.hT rfl rfl rfl rfl rfl rfl rfl rfl rfl rfl rfl fun bL1 => ?_
      refine wl_nil ?_
      refine ne_wt ?_
      refine wt_step rfl rfl (by ((repeat (first | refine Weak.same ?_ | refine Weak.off rfl ?_)); exact trivial)) ?_
      refine RS.cons ?_ (RS.cons ?_ (RS.nil))
      · refine wl_call (X := Vec) rfl rfl rfl rfl rfl rfl (by kernel_rfl) (fun W1 hp => concatF_gives W1 bL1 2 p p' a.fs.length b.fs.length m m' (foC a.fs) (foC b.fs) (by first | exact RowAt.of_bx hp 3 rfl rfl | exact RowAt.of_bx hp 4 rfl rfl) (c1.hp hp) (c3.hp hp) (foC_len _) (foC_len _) (foC_one _) (foC_one _) (by omega) (by omega)) ?_; intro V1 hV1; refine wl_upd 62 (.slice (vAdr V1) (a.fs.length + b.fs.length) (vCap V1)) rfl (vec_val hV1) ?_
        refine wl_nil ?_
        refine ne_wt ?_
        refine wt_step rfl rfl (by ((repeat (first | refine Weak.same ?_ | refine Weak.off rfl ?_)); exact trivial)) ?_
        refine RS.cons ?_ (RS.cons ?_ (RS.nil))
        · refine wl_buildRowZ Tryz.hZ Tryz.hT rfl rfl rfl rfl rfl rfl rfl rfl rfl rfl rfl fun bL2 => ?_
          refine wl_nil ?_
          refine ne_wt ?_
          refine wt_step rfl rfl (by ((repeat (first | refine Weak.same ?_ | refine Weak.off rfl ?_)); exact trivial)) ?_
          refine RS.cons ?_ (RS.cons ?_ (RS.nil))
          · refine wl_call (X := Vec) rfl rfl rfl rfl rfl rfl (by kernel_rfl) (fun W1 hp => concatS_gives W1 bL2 2 q q' a.ss.length b.ss.length n n' (spC a.ss) (spC b.ss) (by first | exact RowAt.of_bx hp 3 rfl rfl | exact RowAt.of_bx hp 4 rfl rfl | exact RowAt.of_bx hp 5 rfl rfl) (c2.hp hp) (c4.hp hp) (spC_len _) (spC_len _) (spC_one _) (spC_one _) (by omega) (by omega)) ?_; intro V2 hV2; refine wl_upd 68 (.slice (vAdr V2) (a.ss.length + b.ss.length) (vCap V2)) rfl (vec_val hV2) ?_
            refine wl_nil ?_
            refine ne_wt ?_
            refine wt_step rfl rfl (by ((repeat (first | refine Weak.same ?_ | refine Weak.off rfl ?_)); exact trivial)) ?_
            refine RS.cons ?_ (RS.nil)
            refine wl_pure Tryz.hT rfl rfl rfl ?_
            refine wl_nil ?_
            refine ne_wt ?_
            refine wt_step rfl rfl (by ((repeat (first | refine Weak.same ?_ | refine Weak.off rfl ?_)); exact trivial)) ?_
            refine RS.cons ?_ (RS.nil)
            refine wl_storeBx 0 Tryz.hT rfl rfl rfl rfl rfl rfl rfl rfl rfl rfl rfl ?_
            refine wl_nil ?_
            refine ne_wt ?_
            refine wt_stepF rfl rfl (by kernel_rfl) ?_
            refine RS.cons ?_ (RS.nil)
            refine wl_pure Tryz.hT rfl rfl rfl ?_
            refine wl_nil ?_
            refine ne_wt ?_
            refine wt_stepF rfl rfl (by kernel_rfl) ?_
            refine RS.cons ?_ (RS.nil)
            refine wl_storeBx 0 Tryz.hT rfl rfl rfl rfl rfl rfl rfl rfl rfl rfl rfl ?_
            refine wl_nil ?_
            refine ne_wt ?_
            rw [← hbf, ← lf] at hV1; rw [← hbs, ← ls] at hV2; rw [← hbf, ← hbs]; first | refine wt_done rfl (by ((repeat (first | refine Weak.same ?_ | refine Weak.off rfl ?_)); exact trivial)) ?_ | refine wt_doneF rfl (by kernel_rfl) ?_
            exact ne_late (⟨V1, V2, hV1, hV2⟩ : BmV (a.plus b)) ⟨rfl, rfl, trivial⟩ [0, 2, 4, 6] (by decide) rfl
          · refine wl_pure Tryz.hT rfl rfl rfl ?_
            refine wl_nil ?_
            refine ne_wt ?_
            refine wt_step rfl rfl (by ((repeat (first | refine Weak.same ?_ | refine Weak.off rfl ?_)); exact trivial)) ?_
            refine RS.cons ?_ (RS.nil)
            refine wl_call (X := Vec) rfl rfl rfl rfl rfl rfl (by kernel_rfl) (fun W1 hp => concatS_gives W1 bL2 2 q q' a.ss.length b.ss.length n n' (spC a.ss) (spC b.ss) (by first | exact RowAt.of_bx hp 3 rfl rfl | exact RowAt.of_bx hp 4 rfl rfl | exact RowAt.of_bx hp 5 rfl rfl) (c2.hp hp) (c4.hp hp) (spC_len _) (spC_len _) (spC_one _) (spC_one _) (by omega) (by omega)) ?_; intro V2 hV2; refine wl_upd 68 (.slice (vAdr V2) (a.ss.length + b.ss.length) (vCap V2)) rfl (vec_val hV2) ?_
            refine wl_nil ?_
            refine ne_wt ?_
            refine wt_step rfl rfl (by ((repeat (first | refine Weak.same ?_ | refine Weak.off rfl ?_)); exact trivial)) ?_
            refine RS.cons ?_ (RS.nil)
            refine wl_storeBx 0 Tryz.hT rfl rfl rfl rfl rfl rfl rfl rfl rfl rfl rfl ?_
            refine wl_nil ?_
            refine ne_wt ?_
            refine wt_stepF rfl rfl (by kernel_rfl) ?_
            refine RS.cons ?_ (RS.nil)
            refine wl_pure Tryz.hT rfl rfl rfl ?_
            refine wl_nil ?_
            refine ne_wt ?_
            refine wt_stepF rfl rfl (by kernel_rfl) ?_
            refine RS.cons ?_ (RS.nil)
            refine wl_storeBx 0 Tryz.hT rfl rfl rfl rfl rfl rfl rfl rfl rfl rfl rfl ?_
            refine wl_nil ?_
            refine ne_wt ?_
            rw [← hbf, ← lf] at hV1; rw [← hbs, ← ls] at hV2; rw [← hbf, ← hbs]; first | refine wt_done rfl (by ((repeat (first | refine Weak.same ?_ | refine Weak.off rfl ?_)); exact trivial)) ?_ | refine wt_doneF rfl (by kernel_rfl) ?_
            exact ne_late (⟨V1, V2, hV1, hV2⟩ : BmV (a.plus b)) ⟨rfl, rfl, trivial⟩ [0, 2, 4, 6] (by decide) rfl
        · refine wl_pure Tryz.hT rfl rfl rfl ?_
          refine wl_nil ?_
          refine ne_wt ?_
          refine wt_step rfl rfl (by ((repeat (first | refine Weak.same ?_ | refine Weak.off rfl ?_)); exact trivial)) ?_
          refine RS.cons ?_ (RS.nil)
          refine wl_buildRowZ Tryz.hZ Tryz.hT rfl rfl rfl rfl rfl rfl rfl rfl rfl rfl rfl fun bL2 => ?_
          refine wl_nil ?_
          refine ne_wt ?_
          refine wt_step rfl rfl (by ((repeat (first | refine Weak.same ?_ | refine Weak.off rfl ?_)); exact trivial)) ?_
          refine RS.cons ?_ (RS.nil)
          refine wl_call (X := Vec) rfl rfl rfl rfl rfl rfl (by kernel_rfl) (fun W1 hp => concatS_gives W1 bL2 2 q q' a.ss.length b.ss.length n n' (spC a.ss) (spC b.ss) (by first | exact RowAt.of_bx hp 3 rfl rfl | exact RowAt.of_bx hp 4 rfl rfl | exact RowAt.of_bx hp 5 rfl rfl) (c2.hp hp) (c4.hp hp) (spC_len _) (spC_len _) (spC_one _) (spC_one _) (by omega) (by omega)) ?_; intro V2 hV2; refine wl_upd 68 (.slice (vAdr V2) (a.ss.length + b.ss.length) (vCap V2)) rfl (vec_val hV2) ?_
          refine wl_nil ?_
          refine ne_wt ?_
          refine wt_step rfl rfl (by ((repeat (first | refine Weak.same ?_ | refine Weak.off rfl ?_)); exact trivial)) ?_
          refine RS.cons ?_ (RS.nil)
          refine wl_storeBx 0 Tryz.hT rfl rfl rfl rfl rfl rfl rfl rfl rfl rfl rfl ?_
          refine wl_nil ?_
          refine ne_wt ?_
          refine wt_stepF rfl rfl (by kernel_rfl) ?_
          refine RS.cons ?_ (RS.nil)
          refine wl_pure Tryz.hT rfl rfl rfl ?_
          refine wl_nil ?_
          refine ne_wt ?_
          refine wt_stepF rfl rfl (by kernel_rfl) ?_
          refine RS.cons ?_ (RS.nil)
          refine wl_storeBx 0 Tryz.hT rfl rfl rfl rfl rfl rfl rfl rfl rfl rfl rfl ?_
          refine wl_nil ?_
          refine ne_wt ?_
          rw [← hbf, ← lf] at hV1; rw [← hbs, ← ls] at hV2; rw [← hbf, ← hbs]; first | refine wt_done rfl (by ((repeat (first | refine Weak.same ?_ | refine Weak.off rfl ?_)); exact trivial)) ?_ | refine wt_doneF rfl (by kernel_rfl) ?_
          exact ne_late (⟨V1, V2, hV1, hV2⟩ : BmV (a.plus b)) ⟨rfl, rfl, trivial⟩ [0, 2, 4, 6] (by decide) rfl
      · refine wl_buildRowZ Tryz.hZ Tryz.hT rfl rfl rfl rfl rfl rfl rfl rfl rfl rfl rfl fun bL2 => ?_
        refine wl_nil ?_
        refine ne_wt ?_
        refine wt_step rfl rfl (by ((repeat (first | refine Weak.same ?_ | refine Weak.off rfl ?_)); exact trivial)) ?_
        refine RS.cons ?_ (RS.nil)
        refine wl_call (X := Vec) rfl rfl rfl rfl rfl rfl (by kernel_rfl) (fun W1 hp => concatF_gives W1 bL1 2 p p' a.fs.length b.fs.length m m' (foC a.fs) (foC b.fs) (by first | exact RowAt.of_bx hp 3 rfl rfl | exact RowAt.of_bx hp 4 rfl rfl) (c1.hp hp) (c3.hp hp) (foC_len _) (foC_len _) (foC_one _) (foC_one _) (by omega) (by omega)) ?_; intro V1 hV1; refine wl_upd 62 (.slice (vAdr V1) (a.fs.length + b.fs.length) (vCap V1)) rfl (vec_val hV1) ?_
        refine wl_nil ?_
        refine ne_wt ?_
        refine wt_step rfl rfl (by ((repeat (first | refine Weak.same ?_ | refine Weak.off rfl ?_)); exact trivial)) ?_
        refine RS.cons ?_ (RS.cons ?_ (RS.nil))
        · refine wl_call (X := Vec) rfl rfl rfl rfl rfl rfl (by kernel_rfl) (fun W1 hp => concatS_gives W1 bL2 2 q q' a.ss.length b.ss.length n n' (spC a.ss) (spC b.ss) (by first | exact RowAt.of_bx hp 3 rfl rfl | exact RowAt.of_bx hp 4 rfl rfl | exact RowAt.of_bx hp 5 rfl rfl) (c2.hp hp) (c4.hp hp) (spC_len _) (spC_len _) (spC_one _) (spC_one _) (by omega) (by omega)) ?_; intro V2 hV2; refine wl_upd 68 (.slice (vAdr V2) (a.ss.length + b.ss.length) (vCap V2)) rfl (vec_val hV2) ?_
          refine wl_nil ?_
          refine ne_wt ?_
          refine wt_step rfl rfl (by ((repeat (first | refine Weak.same ?_ | refine Weak.off rfl ?_)); exact trivial)) ?_
          refine RS.cons ?_ (RS.nil)
          refine wl_pure Tryz.hT rfl rfl rfl ?_
          refine wl_nil ?_
          refine ne_wt ?_
          refine wt_step rfl rfl (by ((repeat (first | refine Weak.same ?_ | refine Weak.off rfl ?_)); exact trivial)) ?_
          refine RS.cons ?_ (RS.nil)
          refine wl_storeBx 0 Tryz.hT rfl rfl rfl rfl rfl rfl rfl rfl rfl rfl rfl ?_
          refine wl_nil ?_
          refine ne_wt ?_
          refine wt_stepF rfl rfl (by kernel_rfl) ?_
          refine RS.cons ?_ (RS.nil)
          refine wl_pure Tryz.hT rfl rfl rfl ?_
          refine wl_nil ?_
          refine ne_wt ?_
          refine wt_stepF rfl rfl (by kernel_rfl) ?_
          refine RS.cons ?_ (RS.nil)
          refine wl_storeBx 0 Tryz.hT rfl rfl rfl rfl rfl rfl rfl rfl rfl rfl rfl ?_
          refine wl_nil ?_
          refine ne_wt ?_
          rw [← hbf, ← lf] at hV1; rw [← hbs, ← ls] at hV2; rw [← hbf, ← hbs]; first | refine wt_done rfl (by ((repeat (first | refine Weak.same ?_ | refine Weak.off rfl ?_)); exact trivial)) ?_ | refine wt_doneF rfl (by kernel_rfl) ?_
          exact ne_late (⟨V1, V2, hV1, hV2⟩ : BmV (a.plus b)) ⟨rfl, rfl, trivial⟩ [0, 2, 5, 6] (by decide) rfl
        · refine wl_pure Tryz.hT rfl rfl rfl ?_
          refine wl_nil ?_
          refine ne_wt ?_
          refine wt_step rfl rfl (by ((repeat (first | refine Weak.same ?_ | refine Weak.off rfl ?_)); exact trivial)) ?_
          refine RS.cons ?_ (RS.nil)
          refine wl_call (X := Vec) rfl rfl rfl rfl rfl rfl (by kernel_rfl) (fun W1 hp => concatS_gives W1 bL2 2 q q' a.ss.length b.ss.length n n' (spC a.ss) (spC b.ss) (by first | exact RowAt.of_bx hp 3 rfl rfl | exact RowAt.of_bx hp 4 rfl rfl | exact RowAt.of_bx hp 5 rfl rfl) (c2.hp hp) (c4.hp hp) (spC_len _) (spC_len _) (spC_one _) (spC_one _) (by omega) (by omega)) ?_; intro V2 hV2; refine wl_upd 68 (.slice (vAdr V2) (a.ss.length + b.ss.length) (vCap V2)) rfl (vec_val hV2) ?_
          refine wl_nil ?_
          refine ne_wt ?_
          refine wt_step rfl rfl (by ((repeat (first | refine Weak.same ?_ | refine Weak.off rfl ?_)); exact trivial)) ?_
          refine RS.cons ?_ (RS.nil)
          refine wl_storeBx 0 Tryz.hT rfl rfl rfl rfl rfl rfl rfl rfl rfl rfl rfl ?_
          refine wl_nil ?_
          refine ne_wt ?_
          refine wt_stepF rfl rfl (by kernel_rfl) ?_
          refine RS.cons ?_ (RS.nil)
          refine wl_pure Tryz.hT rfl rfl rfl ?_
          refine wl_nil ?_
          refine ne_wt ?_
          refine wt_stepF rfl rfl (by kernel_rfl) ?_
          refine RS.cons ?_ (RS.nil)
          refine wl_storeBx 0 Tryz.hT rfl rfl rfl rfl rfl rfl rfl rfl rfl rfl rfl ?_
          refine wl_nil ?_
          refine ne_wt ?_
          rw [← hbf, ← lf] at hV1; rw [← hbs, ← ls] at hV2; rw [← hbf, ← hbs]; first | refine wt_done rfl (by ((repeat (first | refine Weak.same ?_ | refine Weak.off rfl ?_)); exact trivial)) ?_ | refine wt_doneF rfl (by kernel_rfl) ?_
          exact ne_late (⟨V1, V2, hV1, hV2⟩ : BmV (a.plus b)) ⟨rfl, rfl, trivial⟩ [0, 2, 5, 6] (by decide) rfl
    · refine wl_buildRowZ Tryz.hZ Tryz.hT rfl rfl rfl rfl rfl rfl rfl rfl rfl rfl rfl fun bL2 => ?_
      refine wl_nil ?_
      refine ne_wt ?_
      refine wt_step rfl rfl (by ((repeat (first | refine Weak.same ?_ | refine Weak.off rfl ?_)); exact trivial)) ?_
      refine RS.cons ?_ (RS.nil)
      refine wl_buildRowZ Tryz.hZ Tryz.hT rfl rfl rfl rfl rfl rfl rfl rfl rfl rfl rfl fun bL1 => ?_
      refine wl_nil ?_
      refine ne_wt ?_
      refine wt_step rfl rfl (by ((repeat (first | refine Weak.same ?_ | refine Weak.off rfl ?_)); exact trivial)) ?_
      refine RS.cons ?_ (RS.nil)
      refine wl_call (X := Vec) rfl rfl rfl rfl rfl rfl (by kernel_rfl) (fun W1 hp => concatF_gives W1 bL1 2 p p' a.fs.length b.fs.length m m' (foC a.fs) (foC b.fs) (by first | exact RowAt.of_bx hp 3 rfl rfl | exact RowAt.of_bx hp 4 rfl rfl) (c1.hp hp) (c3.hp hp) (foC_len _) (foC_len _) (foC_one _) (foC_one _) (by omega) (by omega)) ?_; intro V1 hV1; refine wl_upd 62 (.slice (vAdr V1) (a.fs.length + b.fs.length) (vCap V1)) rfl (vec_val hV1) ?_
      refine wl_nil ?_
      refine ne_wt ?_
      refine wt_step rfl rfl (by ((repeat (first | refine Weak.same ?_ | refine Weak.off rfl ?_)); exact trivial)) ?_
      refine RS.cons ?_ (RS.cons ?_ (RS.nil))
      · refine wl_call (X := Vec) rfl rfl rfl rfl rfl rfl (by kernel_rfl) (fun W1 hp => concatS_gives W1 bL2 2 q q' a.ss.length b.ss.length n n' (spC a.ss) (spC b.ss) (by first | exact RowAt.of_bx hp 3 rfl rfl | exact RowAt.of_bx hp 4 rfl rfl | exact RowAt.of_bx hp 5 rfl rfl) (c2.hp hp) (c4.hp hp) (spC_len _) (spC_len _) (spC_one _) (spC_one _) (by omega) (by omega)) ?_; intro V2 hV2; refine wl_upd 68 (.slice (vAdr V2) (a.ss.length + b.ss.length) (vCap V2)) rfl (vec_val hV2) ?_
        refine wl_nil ?_
        refine ne_wt ?_
        refine wt_step rfl rfl (by ((repeat (first | refine Weak.same ?_ | refine Weak.off rfl ?_)); exact trivial)) ?_
        refine RS.cons ?_ (RS.nil)
        refine wl_pure Tryz.hT rfl rfl rfl ?_
        refine wl_nil ?_
        refine ne_wt ?_
        refine wt_step rfl rfl (by ((repeat (first | refine Weak.same ?_ | refine Weak.off rfl ?_)); exact trivial)) ?_
        refine RS.cons ?_ (RS.nil)
        refine wl_storeBx 0 Tryz.hT rfl rfl rfl rfl rfl rfl rfl rfl rfl rfl rfl ?_
        refine wl_nil ?_
        refine ne_wt ?_
        refine wt_stepF rfl rfl (by kernel_rfl) ?_
        refine RS.cons ?_ (RS.nil)
        refine wl_pure Tryz.hT rfl rfl rfl ?_
        refine wl_nil ?_
        refine ne_wt ?_
        refine wt_stepF rfl rfl (by kernel_rfl) ?_
        refine RS.cons ?_ (RS.nil)
        refine wl_storeBx 0 Tryz.hT rfl rfl rfl rfl rfl rfl rfl rfl rfl rfl rfl ?_
        refine wl_nil ?_
        refine ne_wt ?_
        rw [← hbf, ← lf] at hV1; rw [← hbs, ← ls] at hV2; rw [← hbf, ← hbs]; first | refine wt_done rfl (by ((repeat (first | refine Weak.same ?_ | refine Weak.off rfl ?_)); exact trivial)) ?_ | refine wt_doneF rfl (by kernel_rfl) ?_
        exact ne_late (⟨V1, V2, hV1, hV2⟩ : BmV (a.plus b)) ⟨rfl, rfl, trivial⟩ [0, 2, 5, 6] (by decide) rfl
      · refine wl_pure Tryz.hT rfl rfl rfl ?_
        refine wl_nil ?_
        refine ne_wt ?_
        refine wt_step rfl rfl (by ((repeat (first | refine Weak.same ?_ | refine Weak.off rfl ?_)); exact trivial)) ?_
        refine RS.cons ?_ (RS.nil)
        refine wl_call (X := Vec) rfl rfl rfl rfl rfl rfl (by kernel_rfl) (fun W1 hp => concatS_gives W1 bL2 2 q q' a.ss.length b.ss.length n n' (spC a.ss) (spC b.ss) (by first | exact RowAt.of_bx hp 3 rfl rfl | exact RowAt.of_bx hp 4 rfl rfl | exact RowAt.of_bx hp 5 rfl rfl) (c2.hp hp) (c4.hp hp) (spC_len _) (spC_len _) (spC_one _) (spC_one _) (by omega) (by omega)) ?_; intro V2 hV2; refine wl_upd 68 (.slice (vAdr V2) (a.ss.length + b.ss.length) (vCap V2)) rfl (vec_val hV2) ?_
        refine wl_nil ?_
        refine ne_wt ?_
        refine wt_step rfl rfl (by ((repeat (first | refine Weak.same ?_ | refine Weak.off rfl ?_)); exact trivial)) ?_
        refine RS.cons ?_ (RS.nil)
        refine wl_storeBx 0 Tryz.hT rfl rfl rfl rfl rfl rfl rfl rfl rfl rfl rfl ?_
        refine wl_nil ?_
        refine ne_wt ?_
        refine wt_stepF rfl rfl (by kernel_rfl) ?_
        refine RS.cons ?_ (RS.nil)
        refine wl_pure Tryz.hT rfl rfl rfl ?_
        refine wl_nil ?_
        refine ne_wt ?_
        refine wt_stepF rfl rfl (by kernel_rfl) ?_
        refine RS.cons ?_ (RS.nil)
        refine wl_storeBx 0 Tryz.hT rfl rfl rfl rfl rfl rfl rfl rfl rfl rfl rfl ?_
        refine wl_nil ?_
        refine ne_wt ?_
        rw [← hbf, ← lf] at hV1; rw [← hbs, ← ls] at hV2; rw [← hbf, ← hbs]; first | refine wt_done rfl (by ((repeat (first | refine Weak.same ?_ | refine Weak.off rfl ?_)); exact trivial)) ?_ | refine wt_doneF rfl (by kernel_rfl) ?_
        exact ne_late (⟨V1, V2, hV1, hV2⟩ : BmV (a.plus b)) ⟨rfl, rfl, trivial⟩ [0, 2, 5, 6] (by decide) rfl
  intro V
  have e : bmV (a.plus b) (vAdr V.f) (vCap V.f) (vAdr V.s) (vCap V.s) = .agg #[str (numS a.len), str (numS a.l), str (numS a.r), .slice (vAdr V.f) (a.fs.length + b.fs.length) (vCap V.f), .slice (vAdr V.s) (a.ss.length + b.ss.length) (vCap V.s)] := by
    show Value.agg #[_, _, _, .slice (vAdr V.f) (a.fs ++ b.fs).length (vCap V.f), .slice (vAdr V.s) (a.ss ++ b.ss).length (vCap V.s)] = _
    rw [List.length_append, List.length_append]; rfl
  refine zE ?_
  refine zA ?_
  refine zB ?_
  refine wl_loadBx 0 Tryz.hT rfl rfl rfl rfl rfl rfl rfl rfl ?_
  refine wl_storeBx 1 Tryz.hT rfl rfl rfl rfl rfl rfl rfl rfl rfl rfl rfl ?_
  refine wl_pure Tryz.hT rfl rfl rfl ?_
  refine wl_nil ?_
  refine zE ?_
  refine zO ?_
  exact ne_ret2 Tryz.hT rfl (.cell 1 rfl rfl rfl rfl rfl) (.tmp rfl) V (by show Value.tuple #[_, _] = .tuple #[bmV (a.plus b) _ _ _ _, _]; rw [e]; rfl) trivial fun W1 hp => NewBx.of_hp (hp.pick (l := [V.bf, V.bs]) [2, 3] (by decide) rfl)
end Go.Proofs.YtddadjbflgdomaaGreatDoor
namespace Go.Proofs.YtddadjbflgdomaaGreatDoor
open Go Go.RowKit Go.Am Go.Lib
theorem half_place {x : SmB} {k : Nat} (hk : k ≤ x.n) : (0 : Rat) ≤ nrm (k : Nat) 2 ∧ nrm (k : Nat) 2 ≤ x.of.len := by
  refine ⟨?_, ?_⟩
  · rw [← half_zero, half_le]; omega
  · show nrm (k : Nat) 2 ≤ nrm (x.n : Int) 2
    rw [half_le]; omega
theorem half_in {x : SmB} {k : Nat} (hk : k ≤ x.n) : InD (2 * 1) (100 * 1) (nrm (k : Nat) 2) := by
  have := x.n_rng
  exact InD.ofN (D := 2) (M := 100) _ (by decide) (by omega)
/-- A cell of a row. -/
theorem row_one {W0 W : World} {bxs : List Bx} (hp : Hp W0 bxs W) (k : Nat) {g : Nat} {e : TypeId} {xs : List Value} {i : Nat} {v : Value} (hk : nth bxs k = some ⟨g, e, xs, true, none⟩) (hi : xs[i]? = some v) : RowAt W g (0 + i * 1) [v] := by
  have h := RowAt.of_bx hp k hk rfl
  refine ⟨h.lt, fun m u hu => ?_⟩
  cases m with
  | zero =>
    obtain rfl : v = u := by simpa using hu
    have := h.get i v hi
    rw [Nat.zero_add, Nat.mul_one, Nat.add_zero]
    rw [Nat.zero_add] at this
    exact this
  | succ m => simp at hu
end Go.Proofs.YtddadjbflgdomaaGreatDoor
namespace Go.Proofs.YtddadjbflgdomaaGreatDoor
open Go Go.RowKit Go.Am Go.Lib
set_option maxRecDepth 10000
-- BOXES 13
-- CODE2
theorem adds1_gives (b : BmP) (h : BmC b) (hz : RcZ b) (p q : Option Addr) (m n : Nat) (W : World) (hM : BmM W b p q) :
    CallsR Tryz.prog 27 #[bmV b p m q n] W (fun _ : Unit => .tuple #[str (numS b.left), .int .i64 0]) (fun _ => True) (fun _ => []) := by
  refine calls_enter (args := [bmV b p m q n]) Tryz.func27 rfl rfl rfl ?_
  refine zA ?_
  refine zB ?_
  (refine wl_box rfl rfl rfl rfl ?_; intro)
  iterate 2 refine wl_pure Tryz.hT rfl rfl rfl ?_
  refine wl_nil ?_
  refine zE ?_
  refine zA ?_
  refine zB ?_
  refine wl_loadBx 0 Tryz.hT rfl rfl rfl rfl rfl rfl rfl rfl ?_
  refine wl_call1 rfl rfl rfl rfl rfl rfl (by kernel_rfl) (fun W1 hp => bReactions_gives b h hz p q m n W1 (hM.hp hp)) ?_
  iterate 7 refine wl_pure Tryz.hT rfl rfl rfl ?_
  refine wl_nil ?_
  refine zE ?_
  refine zA ?_
  refine zB ?_
  iterate 4 refine wl_pure Tryz.hT rfl rfl rfl ?_
  refine wl_nil ?_
  refine zE ?_
  refine zO ?_
  exact ne_ret2 Tryz.hT rfl (.tmp rfl) (.tmp rfl) () rfl trivial fun W _ => NewBx.nil _ _
theorem adds2_gives (b : BmP) (h : BmC b) (hz : RcZ b) (p q : Option Addr) (m n : Nat) (W : World) (hM : BmM W b p q) :
    CallsR Tryz.prog 28 #[bmV b p m q n] W (fun _ : Unit => .tuple #[str (numS b.right), .int .i64 0]) (fun _ => True) (fun _ => []) := by
  refine calls_enter (args := [bmV b p m q n]) Tryz.func28 rfl rfl rfl ?_
  refine zA ?_
  refine zB ?_
  (refine wl_box rfl rfl rfl rfl ?_; intro)
  iterate 2 refine wl_pure Tryz.hT rfl rfl rfl ?_
  refine wl_nil ?_
  refine zE ?_
  refine zA ?_
  refine zB ?_
  refine wl_loadBx 0 Tryz.hT rfl rfl rfl rfl rfl rfl rfl rfl ?_
  refine wl_call1 rfl rfl rfl rfl rfl rfl (by kernel_rfl) (fun W1 hp => bReactions_gives b h hz p q m n W1 (hM.hp hp)) ?_
  iterate 7 refine wl_pure Tryz.hT rfl rfl rfl ?_
  refine wl_nil ?_
  refine zE ?_
  refine zA ?_
  refine zB ?_
  iterate 4 refine wl_pure Tryz.hT rfl rfl rfl ?_
  refine wl_nil ?_
  refine zE ?_
  refine zO ?_
  exact ne_ret2 Tryz.hT rfl (.tmp rfl) (.tmp rfl) () rfl trivial fun W _ => NewBx.nil _ _
theorem adds3_gives (b : BmP) (h : BmC b) (x : Rat) (hx : PlQ b x) (hz : ShZ b x) (g : Nat) (p q : Option Addr) (m n : Nat) (W : World) (hM : BmM W b p q) (hrow : RowAt W g 0 [str (numS x)]) :
    CallsR Tryz.prog 29 #[bmV b p m q n, selfP g] W (fun _ : Unit => .tuple #[str (numS (b.shear x)), .int .i64 0]) (fun _ => True) (fun _ => []) := by
  refine calls_enter (args := [bmV b p m q n, selfP g]) Tryz.func29 rfl rfl rfl ?_
  refine zA ?_
  refine zB ?_
  (refine wl_box rfl rfl rfl rfl ?_; intro)
  iterate 2 refine wl_pure Tryz.hT rfl rfl rfl ?_
  refine wl_nil ?_
  refine zE ?_
  refine zA ?_
  refine zB ?_
  refine wl_loadBx 0 Tryz.hT rfl rfl rfl rfl rfl rfl rfl rfl ?_
  refine wl_load rfl rfl rfl rfl (fun W hp => RowAt.load 0 Tryz.hT rfl ((fun W1 hp => hrow.hp hp) W hp) rfl) ?_
  refine wl_call1 rfl rfl rfl rfl rfl rfl (by kernel_rfl) (fun W1 hp => bShear_gives b h x hx hz p q m n W1 (hM.hp hp)) ?_
  iterate 4 refine wl_pure Tryz.hT rfl rfl rfl ?_
  refine wl_nil ?_
  refine zE ?_
  refine zO ?_
  exact ne_ret2 Tryz.hT rfl (.tmp rfl) (.tmp rfl) () rfl trivial fun W _ => NewBx.nil _ _
theorem adds4_gives (b : BmP) (h : BmC b) (x : Rat) (hx : PlQ b x) (hz : MoZ b x) (g : Nat) (p q : Option Addr) (m n : Nat) (W : World) (hM : BmM W b p q) (hrow : RowAt W g 0 [str (numS x)]) :
    CallsR Tryz.prog 30 #[bmV b p m q n, selfP g] W (fun _ : Unit => .tuple #[str (numS (b.moment x)), .int .i64 0]) (fun _ => True) (fun _ => []) := by
  refine calls_enter (args := [bmV b p m q n, selfP g]) Tryz.func30 rfl rfl rfl ?_
  refine zA ?_
  refine zB ?_
  (refine wl_box rfl rfl rfl rfl ?_; intro)
  iterate 2 refine wl_pure Tryz.hT rfl rfl rfl ?_
  refine wl_nil ?_
  refine zE ?_
  refine zA ?_
  refine zB ?_
  refine wl_loadBx 0 Tryz.hT rfl rfl rfl rfl rfl rfl rfl rfl ?_
  refine wl_load rfl rfl rfl rfl (fun W hp => RowAt.load 0 Tryz.hT rfl ((fun W1 hp => hrow.hp hp) W hp) rfl) ?_
  refine wl_call1 rfl rfl rfl rfl rfl rfl (by kernel_rfl) (fun W1 hp => bMoment_gives b h x hx hz p q m n W1 (hM.hp hp)) ?_
  iterate 4 refine wl_pure Tryz.hT rfl rfl rfl ?_
  refine wl_nil ?_
  refine zE ?_
  refine zO ?_
  exact ne_ret2 Tryz.hT rfl (.tmp rfl) (.tmp rfl) () rfl trivial fun W _ => NewBx.nil _ _
/-- What the law asks of both beams and of their sum. -/
structure Asked (g : Nat) (u L : Rat) (ef : Nat) (capt : List Value) (val : BmP → Rat) : Prop where
  ent : entersB Tryz.prog ef = true
  run : ∀ b : BmP, BmG b → b.len = L → ∀ (p q : Option Addr) (m n : Nat) (W : World), BmM W b p q → RowAt W g 0 [str (numS u)] → CallsR Tryz.prog ef (bmV b p m q n :: capt).toArray W (fun _ : Unit => .tuple #[str (numS (val b)), .int .i64 0]) (fun _ => True) (fun _ => [])
  sz : ∀ b : BmP, BmG b → szQ (val b) 40
  sum : ∀ a b : BmP, a.len = b.len → a.l = b.l → a.r = b.r → val (a.plus b) = val a + val b
abbrev fnV (ef : Nat) (capt : List Value) : Value := .func (.func ef) #[] capt.toArray
abbrev fnL (g : Nat) : List Value := [fnV 23 [], fnV 27 [], fnV 28 [], fnV 29 [selfP g], fnV 30 [selfP g]]
theorem asked (g : Nat) {u L : Rat} (iu : InD (2 * 1) (100 * 1) u) (u0 : 0 ≤ u) (u1 : u ≤ L) (i : Nat) (hi : i < 5) : ∃ (ef : Nat) (capt : List Value) (val : BmP → Rat), (fnL g)[i]? = some (fnV ef capt) ∧ Asked g u L ef capt val := by
  have hi : i = 0 ∨ i = 1 ∨ i = 2 ∨ i = 3 ∨ i = 4 := by omega
  rcases hi with rfl | rfl | rfl | rfl | rfl
  · exact ⟨23, [], BmP.total, rfl, ⟨by kernel_rfl, fun b hb _ p q m n W hM _ => bTotal_gives b hb.chk hb.rc p q m n W hM, fun b hb => hb.ends.2.2, fun a b h _ _ => plus_total h⟩⟩
  · exact ⟨27, [], BmP.left, rfl, ⟨by kernel_rfl, fun b hb _ p q m n W hM _ => adds1_gives b hb.chk hb.rc p q m n W hM, fun b hb => hb.ends.1, fun a b h h1 h2 => plus_left h h1 h2⟩⟩
  · exact ⟨28, [], BmP.right, rfl, ⟨by kernel_rfl, fun b hb _ p q m n W hM _ => adds2_gives b hb.chk hb.rc p q m n W hM, fun b hb => hb.ends.2.1, fun a b h h1 h2 => plus_right h h1 h2⟩⟩
  · exact ⟨29, [selfP g], fun b => b.shear u, rfl, ⟨by kernel_rfl, fun b hb hl p q m n W hM hr => adds3_gives b hb.chk u (BmG.pl 1 (by decide) (by decide) iu u0 (by rw [hl]; exact u1)) (hb.sh 1 (by decide) (by decide) iu).1 g p q m n W hM hr, fun b hb => (hb.sh 1 (by decide) (by decide) iu).2, fun a b h h1 h2 => plus_shear h h1 h2 u⟩⟩
  · exact ⟨30, [selfP g], fun b => b.moment u, rfl, ⟨by kernel_rfl, fun b hb hl p q m n W hM hr => adds4_gives b hb.chk u (BmG.pl 1 (by decide) (by decide) iu u0 (by rw [hl]; exact u1)) (hb.mo 1 (by decide) (by decide) iu).1 g p q m n W hM hr, fun b hb => (hb.mo 1 (by decide) (by decide) iu).2, fun a b h h1 h2 => plus_moment h h1 h2 u⟩⟩
set_option maxHeartbeats 32000000 in
theorem adds_gives (x : SmB) (a : Nat) (ha : a < 256) (p q : Option Addr) (m n : Nat) (l1 : List (Int × Int)) (p1 : Option Addr) (m1 : Nat) (l2 : List (Int × Int × Int)) (p2 : Option Addr) (m2 : Nat) (W : World) (hM : SmbM W x p q m n)
    (hP : PairsP W p1 l1) (hP1 : ∀ f ∈ l1, (-128 ≤ f.1 ∧ f.1 ≤ 127) ∧ (-128 ≤ f.2 ∧ f.2 ≤ 127)) (hP2 : l1.length ≤ m1) (hT : ThreesP W p2 l2) (hT1 : ∀ s ∈ l2, (-128 ≤ s.1 ∧ s.1 ≤ 127) ∧ (-128 ≤ s.2.1 ∧ s.2.1 ≤ 127) ∧ (-128 ≤ s.2.2 ∧ s.2.2 ≤ 127)) (hT2 : l2.length ≤ m2) (hv : MaxP W) (ht : TabP W) :
    CallsR Tryz.prog 9 #[smbV x p q m n, .slice p1 l1.length m1, .slice p2 l2.length m2, .int .u8 (a : Nat)] W (fun _ : Unit => .bool true) (fun _ => True) (fun _ => []) := by
  obtain ⟨y, hy⟩ : ∃ y : SmB, y = ⟨x.a, x.b, x.c, l1, l2⟩ := ⟨_, rfl⟩
  have hMy : SmbM W y p1 p2 m1 m2 := by rw [hy]; exact ⟨hM.ba, hM.bb, hM.bc, ⟨hP1, hT1⟩, hP, hT, hP2, hT2⟩
  have hg := SmB.good hM.ok
  have hg2 := SmB.good hMy.ok
  have eL : x.of.len = y.of.len := by rw [hy]; rfl
  have el : x.of.l = y.of.l := by rw [hy]; rfl
  have er : x.of.r = y.of.r := by rw [hy]; rfl
  have f1 := x.len_fs
  have f2 := y.len_fs
  have s1 := x.len_ss
  have s2 := y.len_ss
  have hg3 := BmG.plus hg hg2 eL (by omega) (by omega)
  have hn := x.n_rng
  have ba := hM.ba
  obtain ⟨k, hk⟩ : ∃ k, k = a % (x.n + 1) := ⟨_, rfl⟩
  have hkn : k ≤ x.n := by
    have : k < x.n + 1 := by rw [hk]; exact Nat.mod_lt _ (by omega)
    omega
  obtain ⟨u, hu⟩ : ∃ u, u = nrm (k : Nat) 2 := ⟨_, rfl⟩
  have iu : InD (2 * 1) (100 * 1) u := hu ▸ half_in hkn
  obtain ⟨u0, u1⟩ : 0 ≤ u ∧ u ≤ x.of.len := by rw [hu]; exact half_place hkn
  refine calls_enter (args := [smbV x p q m n, .slice p1 l1.length m1, .slice p2 l2.length m2, .int .u8 (a : Nat)]) Tryz.func9 rfl rfl rfl ?_
  refine zA ?_
  refine zB ?_
  (refine wl_box rfl rfl rfl rfl ?_; intro)
  refine wl_pure Tryz.hT rfl rfl rfl ?_
  refine wl_nil ?_
  rename_i b4
  refine zE ?_
  refine zA ?_
  refine zB ?_
  refine wl_loadBx 0 Tryz.hT rfl rfl rfl rfl rfl rfl rfl rfl ?_
  refine wl_call (X := BmV x.of) rfl rfl rfl rfl rfl rfl (by kernel_rfl) (fun W hp => lawof_gives x p q m n W (hM.hp hp) (hv.hp hp) (ht.hp hp)) ?_
  intro V1 _
  iterate 3 refine wl_pure Tryz.hT rfl rfl rfl ?_
  (refine wl_allocZ Tryz.hZ rfl rfl rfl rfl ?_; intro)
  refine wl_storeBx 3 Tryz.hT rfl rfl rfl rfl rfl rfl rfl rfl rfl rfl rfl ?_
  refine wl_pure Tryz.hT rfl rfl rfl ?_
  refine wl_nil ?_
  rename_i b9
  refine zE ?_
  refine zA ?_
  refine zB ?_
  refine wl_loadBx 0 Tryz.hT rfl rfl rfl rfl rfl rfl rfl rfl ?_
  (refine wl_allocZ Tryz.hZ rfl rfl rfl rfl ?_; intro)
  refine wl_storeBx 4 Tryz.hT rfl rfl rfl rfl rfl rfl rfl rfl rfl rfl rfl ?_
  refine wl_nil ?_
  rename_i b11
  refine zE ?_
  refine zA ?_
  refine zB ?_
  iterate 3 refine wl_pure Tryz.hT rfl rfl rfl ?_
  refine wl_storeBx 4 Tryz.hT rfl rfl rfl rfl rfl rfl rfl rfl rfl rfl rfl ?_
  refine wl_pure Tryz.hT rfl rfl rfl ?_
  refine wl_storeBx 4 Tryz.hT rfl rfl rfl rfl rfl rfl rfl rfl rfl rfl rfl ?_
  refine wl_nil ?_
  refine ne_bx (bxs' := [smbB b4 x p q m n, V1.bf, V1.bs, bmB b9 x.of (vAdr V1.f) (vCap V1.f) (vAdr V1.s) (vCap V1.s), smbB b11 y p1 p2 m1 m2]) (by rw [hy]; rfl) ?_
  refine zE ?_
  refine zA ?_
  refine zB ?_
  refine wl_loadBx 4 Tryz.hT rfl rfl rfl rfl rfl rfl rfl rfl ?_
  refine wl_call (X := BmV y.of) rfl rfl rfl rfl rfl rfl (by kernel_rfl) (fun W hp => lawof_gives y p1 p2 m1 m2 W (hMy.hp hp) (hv.hp hp) (ht.hp hp)) ?_
  intro V2 _
  iterate 3 refine wl_pure Tryz.hT rfl rfl rfl ?_
  (refine wl_allocZ Tryz.hZ rfl rfl rfl rfl ?_; intro)
  refine wl_storeBx 7 Tryz.hT rfl rfl rfl rfl rfl rfl rfl rfl rfl rfl rfl ?_
  refine wl_pure Tryz.hT rfl rfl rfl ?_
  refine wl_nil ?_
  rename_i b12
  refine zE ?_
  refine zA ?_
  refine zB ?_
  refine wl_loadBx 3 Tryz.hT rfl rfl rfl rfl rfl rfl rfl rfl ?_
  refine wl_loadBx 7 Tryz.hT rfl rfl rfl rfl rfl rfl rfl rfl ?_
  refine wl_call (X := BmV (x.of.plus y.of)) rfl rfl rfl rfl rfl rfl (by kernel_rfl) (fun W1 hp => bAdd_gives x.of y.of hg.chk hg2.chk eL el er (by omega) (by omega) (vAdr V1.f) (vAdr V1.s) (vAdr V2.f) (vAdr V2.s) (vCap V1.f) (vCap V1.s) (vCap V2.f) (vCap V2.s) W1 (V1.m 1 2 rfl rfl hp hv ht) (V2.m 5 6 rfl rfl hp hv ht)
    (CellsP.of_vec V1.hf 1 rfl hp) (CellsP.of_vec V1.hs 2 rfl hp) (CellsP.of_vec V2.hf 5 rfl hp) (CellsP.of_vec V2.hs 6 rfl hp)) ?_
  intro V3 _
  iterate 3 refine wl_pure Tryz.hT rfl rfl rfl ?_
  (refine wl_allocZ Tryz.hZ rfl rfl rfl rfl ?_; intro)
  refine wl_storeBx 10 Tryz.hT rfl rfl rfl rfl rfl rfl rfl rfl rfl rfl rfl ?_
  refine wl_pure Tryz.hT rfl rfl rfl ?_
  refine wl_nil ?_
  rename_i b14
  refine zE ?_
  iterate 2 refine zA ?_
  refine zB ?_
  iterate 10 refine wl_pure Tryz.hT rfl rfl rfl ?_
  refine wl_nil ?_
  refine zE ?_
  refine zS rfl ?_
  refine zI ?_
  refine zE ?_
  refine zA ?_
  refine zB ?_
  refine wl_pure Tryz.hT rfl rfl rfl ?_
  refine wl_cvA Tryz.underlying5 Tryz.underlying3 rfl rfl rfl rfl ?_
  refine wl_upd 59 (.int .i64 (a : Nat)) rfl (congrArg (Value.int .i64) (w64_nat (by omega))) ?_
  refine wl_pure Tryz.hT rfl rfl rfl ?_
  refine wl_loadBx 0 Tryz.hT rfl rfl rfl rfl rfl rfl rfl rfl ?_
  refine wl_cvA Tryz.underlying5 Tryz.underlying3 rfl rfl rfl rfl ?_
  refine wl_upd 62 (.int .i64 (x.a : Nat)) rfl (congrArg (Value.int .i64) (w64_nat (by omega))) ?_
  refine wl_rem rfl rfl rfl rfl rfl (by decide) ?_
  refine wl_upd 63 (.int .i64 ((x.a % 24 : Nat) : Int)) rfl (congrArg (Value.int .i64) (by rw [Int.tmod_eq_emod_of_nonneg (by omega)]; omega)) ?_
  refine wl_pure Tryz.hT rfl rfl rfl ?_
  refine wl_upd 64 (.int .i64 ((x.n + 1 : Nat) : Int)) rfl (congrArg (Value.int .i64) (by show w64 (((x.a % 24 : Nat) : Int) + 3) = _; rw [w64_id (by omega) (by omega)]; unfold SmB.n; omega)) ?_
  refine wl_rem rfl rfl rfl rfl rfl (by omega) ?_
  refine wl_upd 65 (.int .i64 (k : Nat)) rfl (congrArg (Value.int .i64) (by rw [Int.tmod_eq_emod_of_nonneg (by omega), hk]; exact (Int.natCast_emod _ _).symm)) ?_
  refine wl_call1 rfl rfl rfl rfl rfl rfl (by kernel_rfl) (fun W1 hp => (bnum_gives (k : Nat) (by omega) W1 (ht.hp hp)).cast (by rw [← hu])) ?_
  (refine wl_allocZ Tryz.hZ rfl rfl rfl rfl ?_; intro)
  refine wl_storeBx 11 Tryz.hT rfl rfl rfl rfl rfl rfl rfl rfl rfl rfl rfl ?_
  refine wl_nil ?_
  rename_i b16
  refine zE ?_
  iterate 2 refine zA ?_
  refine zB ?_
  iterate 2 refine wl_pure Tryz.hT rfl rfl rfl ?_
  refine wl_buildRow .nilFunc Tryz.hT rfl rfl rfl rfl rfl (fun W => by kernel_rfl) rfl rfl rfl rfl rfl fun bL => ?_
  iterate 2 refine wl_pure Tryz.hT rfl rfl rfl ?_
  refine wl_nil ?_
  refine zE ?_
  refine zH ?_
  refine wc_loop (X := Nat) (fun i => [(9, selfP b9), (12, selfP b12), (14, selfP b14), (69, .slice (some ⟨bL, 0, none⟩) 5 5), (70, .int .i64 5), (71, .int .i64 (i : Nat))])
    (fun _ => [smbB b4 x p q m n, V1.bf, V1.bs, bmB b9 x.of (vAdr V1.f) (vCap V1.f) (vAdr V1.s) (vCap V1.s), smbB b11 y p1 p2 m1 m2, V2.bf, V2.bs, bmB b12 y.of (vAdr V2.f) (vCap V2.f) (vAdr V2.s) (vCap V2.s), V3.bf, V3.bs, bmB b14 (x.of.plus y.of) (vAdr V3.f) (vCap V3.f) (vAdr V3.s) (vCap V3.s), ⟨b16, 27, [str (numS u)], true, none⟩, ⟨bL, 54, fnL b16, true, none⟩])
    (fun i => i ≤ 5) (fun i => 5 - i) 0 (Nat.zero_le _) ⟨rfl, rfl, rfl, rfl, rfl, rfl, trivial⟩ [] rfl ?_
  intro i hi
  have hi : i ≤ 5 := hi
  refine zA ?_
  refine zB ?_
  refine wl_pure Tryz.hT rfl rfl rfl ?_
  by_cases hlt : i < 5
  · refine wl_upd 72 (.bool true) rfl (congrArg Value.bool (decide_eq_true (by omega))) ?_
    refine wl_nil ?_
    refine zE ?_
    refine zA ?_
    refine zR rfl ?_
    refine zI ?_
    refine zE ?_
    refine zA ?_
    refine zH ?_
    refine zA ?_
    refine zB ?_
    obtain ⟨ef, capt, val, hcell, hA⟩ := asked b16 iu u0 u1 i hlt
    have za := hA.sz _ hg
    have zb := hA.sz _ hg2
    have hsum := hA.sum x.of y.of eL el er
    refine wl_indexAddr Tryz.hT rfl rfl rfl rfl rfl rfl rfl (by omega) (by omega) ?_
    refine wl_load rfl rfl rfl rfl (fun W hp => RowAt.load 0 Tryz.hT rfl ((fun W1 hp => show RowAt W1 bL (0 + i * 1) [fnV ef capt] from row_one hp 12 rfl hcell) W hp) rfl) ?_
    refine wl_pure Tryz.hT rfl rfl rfl ?_
    refine wl_nil ?_
    refine zE ?_
    refine zA ?_
    refine zB ?_
    refine wl_pure Tryz.hT rfl rfl rfl ?_
    refine wl_loadBx 3 Tryz.hT rfl rfl rfl rfl rfl rfl rfl rfl ?_
    refine wl_call1 (capt := capt) rfl rfl rfl rfl rfl rfl hA.ent (fun W1 hp => hA.run x.of hg rfl (vAdr V1.f) (vAdr V1.s) (vCap V1.f) (vCap V1.s) W1 (V1.m 1 2 rfl rfl hp hv ht) (RowAt.of_bx hp 11 rfl rfl)) ?_
    iterate 5 refine wl_pure Tryz.hT rfl rfl rfl ?_
    refine wl_nil ?_
    refine zE ?_
    refine zA ?_
    refine zB ?_
    refine wl_pure Tryz.hT rfl rfl rfl ?_
    refine wl_loadBx 7 Tryz.hT rfl rfl rfl rfl rfl rfl rfl rfl ?_
    refine wl_call1 (capt := capt) rfl rfl rfl rfl rfl rfl hA.ent (fun W1 hp => hA.run y.of hg2 eL.symm (vAdr V2.f) (vAdr V2.s) (vCap V2.f) (vCap V2.s) W1 (V2.m 5 6 rfl rfl hp hv ht) (RowAt.of_bx hp 11 rfl rfl)) ?_
    iterate 5 refine wl_pure Tryz.hT rfl rfl rfl ?_
    refine wl_nil ?_
    refine zE ?_
    refine zA ?_
    refine zB ?_
    refine wl_pure Tryz.hT rfl rfl rfl ?_
    refine wl_loadBx 10 Tryz.hT rfl rfl rfl rfl rfl rfl rfl rfl ?_
    refine wl_call1 (capt := capt) rfl rfl rfl rfl rfl rfl hA.ent (fun W1 hp => hA.run (x.of.plus y.of) hg3 rfl (vAdr V3.f) (vAdr V3.s) (vCap V3.f) (vCap V3.s) W1 (V3.m 8 9 rfl rfl hp hv ht) (RowAt.of_bx hp 11 rfl rfl)) ?_
    iterate 5 refine wl_pure Tryz.hT rfl rfl rfl ?_
    refine wl_nil ?_
    refine zE ?_
    refine zA ?_
    refine zB ?_
    iterate 2 refine wl_pure Tryz.hT rfl rfl rfl ?_
    refine wl_call1 rfl rfl rfl rfl rfl rfl (by kernel_rfl) (fun W1 hp => radd_gives (val x.of) (val y.of) (sz2 za zb (by decide)) W1 (hv.hp hp) (ht.hp hp)) ?_
    iterate 5 refine wl_pure Tryz.hT rfl rfl rfl ?_
    refine wl_nil ?_
    refine zE ?_
    refine zA ?_
    refine zB ?_
    iterate 10 refine wl_pure Tryz.hT rfl rfl rfl ?_
    refine wl_upd 108 (.bool false) rfl (congrArg Value.bool (by show (!_) = false; rw [strEqB, hsum, decide_eq_true rfl]; rfl)) ?_
    refine wl_pure Tryz.hT rfl rfl rfl ?_
    refine wl_nil ?_
    refine zE ?_
    refine zS rfl ?_
    refine zI ?_
    refine zN ?_
    refine zE ?_
    refine zB ?_
    refine wl_pure Tryz.hT rfl rfl rfl ?_
    refine wl_upd 110 (.int .i64 ((i + 1 : Nat) : Int)) rfl (congrArg (Value.int .i64) (w64_succ (by omega))) ?_
    refine wl_pure Tryz.hT rfl rfl rfl ?_
    refine wl_nil ?_
    exact ne_loop (i + 1) hlt (by show 5 - (i + 1) < 5 - i; omega) ⟨rfl, rfl, rfl, rfl, rfl, rfl, trivial⟩ [] rfl
  refine wl_upd 72 (.bool false) rfl (congrArg Value.bool (decide_eq_false (by omega))) ?_
  refine wl_nil ?_
  refine zE ?_
  refine zA ?_
  refine zS rfl ?_
  refine zJ ?_
  iterate 2 refine zK ?_
  refine zL ?_
  refine zE ?_
  refine zA ?_
  refine zB ?_
  refine wl_call1 rfl rfl rfl rfl rfl rfl (by kernel_rfl) (fun W1 hp => awakeB_gives W1 (hv.hp hp) (ht.hp hp)) ?_
  refine wl_pure Tryz.hT rfl rfl rfl ?_
  refine wl_nil ?_
  refine zE ?_
  refine zO ?_
  exact ne_ret1 Tryz.hT rfl (.tmp rfl) () rfl trivial fun W _ => NewBx.nil _ _
end Go.Proofs.YtddadjbflgdomaaGreatDoor
namespace Go.Proofs.YtddadjbflgdomaaGreatDoor
open Go Go.RowKit Go.Am Go.ChangeShapes Go.WideShapes Go.Deep Go.ChangeAt
set_option maxRecDepth 100000
section
variable {H : Type} {enc : TypeId × Value → H} {w : World} {base : Nat} {spare : Nat → Bool} {held : Bool} {fuel : Nat} {cs : List Value} {x : DataW H × List MemPlace}
end
section
variable {H : Type} {enc : TypeId × Value → H} {w : World} {base : Nat} {spare : Nat → Bool} {held : Bool} {v : Value} {d : DataW H} {ps : List MemPlace}
theorem open_fos {r : Reach} {b0 : Nat} (hv : Value.okWide Tryz.prog w r b0 22 v) (h : DataW.Trod enc Tryz.prog w base spare held 22 v d ps) :
    ∃ (p : Option Addr) (cap : Nat) (l : List (Int × Int)), v = .slice p l.length cap ∧ PairsP w p l ∧ (∀ f ∈ l, (-128 ≤ f.1 ∧ f.1 ≤ 127) ∧ (-128 ≤ f.2 ∧ f.2 ≤ 127)) ∧ l.length ≤ cap := by
  obtain ⟨a, len, cap, rfl⟩ := okWide_slice Tryz.underlying22 hv
  obtain ⟨fuel, hf⟩ := h
  obtain ⟨p, cp, l, e, h⟩ := open_pairs (cs := [.slice a len cap]) hf
  exact ⟨p, cp, l, by simpa using e, h⟩
theorem open_sps {r : Reach} {b0 : Nat} (hv : Value.okWide Tryz.prog w r b0 23 v) (h : DataW.Trod enc Tryz.prog w base spare held 23 v d ps) :
    ∃ (p : Option Addr) (cap : Nat) (l : List (Int × Int × Int)), v = .slice p l.length cap ∧ ThreesP w p l ∧ (∀ s ∈ l, (-128 ≤ s.1 ∧ s.1 ≤ 127) ∧ (-128 ≤ s.2.1 ∧ s.2.1 ≤ 127) ∧ (-128 ≤ s.2.2 ∧ s.2.2 ≤ 127)) ∧ l.length ≤ cap := by
  obtain ⟨a, len, cap, rfl⟩ := okWide_slice Tryz.underlying23 hv
  obtain ⟨fuel, hf⟩ := h
  obtain ⟨p, cp, l, e, h⟩ := open_threes (cs := [.slice a len cap]) hf
  exact ⟨p, cp, l, by simpa using e, h⟩
end
end Go.Proofs.YtddadjbflgdomaaGreatDoor
