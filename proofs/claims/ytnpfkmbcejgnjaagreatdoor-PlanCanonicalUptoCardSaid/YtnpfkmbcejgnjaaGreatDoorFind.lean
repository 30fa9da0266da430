/-
  slices.IndexFunc and ContainsFunc over sides and over rings, at predicates whose contracts are known.
-/
import Derived.Test.YtnpfkmbcejgnjaaGreatDoorShape
import Derived.Test.YtnpfkmbcejgnjaaGreatDoorRange
import Derived.Test.YtnpfkmbcejgnjaaGreatDoorRings
namespace Go.Proofs.YtnpfkmbcejgnjaaGreatDoor
open Go Go.RowKit Go.Am
set_option maxRecDepth 10000
-- BOXES 2
-- USES ranged_gives
/-- The first place at which a predicate holds, or -1. -/
def idxF {α : Type} (f : α → Bool) : List α → Nat → Int
  | [], _ => -1
  | x :: l, k => if f x = true then (k : Int) else idxF f l (k + 1)
theorem idxF_any {α : Type} (f : α → Bool) : ∀ (l : List α) (k : Nat), decide (idxF f l k ≥ 0) = l.any f
  | [], k => by simp [idxF]
  | x :: l, k => by
    unfold idxF
    by_cases h : f x = true
    · rw [if_pos h, List.any_cons, h, Bool.true_or, decide_eq_true_iff]; omega
    · rw [if_neg h, idxF_any f l (k + 1), List.any_cons]
      simp [h]
theorem indexSd_gives (g : Nat) (hE : entersB Tryz.prog g = true) (f : Sd → Bool) (hf : ∀ s, Gives Tryz.prog g [s.val] (.bool (f s))) (W : World) (p : Option Addr) (cap : Nat) (l : List Sd) (hn : l.length < 4611686018427387904) (hR : RingP W p l) :
    CallsR Tryz.prog 87 #[slv p l.length cap, .func (.func g) #[] #[]] W (fun _ : Unit => .int .i64 (idxF f l 0)) (fun _ => True) (fun _ => []) := by
  refine calls_enter (args := [slv p l.length cap, .func (.func g) #[] #[]]) Tryz.func87 rfl rfl rfl ?_
  refine zA ?_
  refine zB ?_
  refine wl_pure Tryz.hT rfl rfl rfl ?_
  refine wl_nil ?_
  refine zE ?_
  refine zA ?_
  refine zA ?_
  refine zB ?_
  refine wl_pure Tryz.hT rfl rfl rfl ?_
  refine wl_pure Tryz.hT rfl rfl rfl ?_
  refine wl_pure Tryz.hT rfl rfl rfl ?_
  refine wl_nil ?_
  refine zE ?_
  refine zH ?_
  refine wc_loop (X := Nat) (fun k => [(0, slv p l.length cap), (1, .func (.func g) #[] #[]), (7, .int .i64 (l.length : Nat)), (8, .int .i64 (k : Nat))]) (fun _ => [])
    (fun k => k ≤ l.length ∧ idxF f l 0 = idxF f (l.drop k) k) (fun k => l.length - k) 0 ⟨Nat.zero_le _, rfl⟩ ⟨rfl, rfl, rfl, rfl, trivial⟩ [] rfl ?_
  rintro k ⟨hk, hi⟩
  refine zA ?_
  refine zB ?_
  refine wl_pure Tryz.hT rfl rfl rfl ?_
  refine wl_nil ?_
  refine zE ?_
  refine zA ?_
  refine wc_cond rfl (fun h => ?_) (fun h => ?_)
  rotate_left
  · refine zJ ?_
    refine zK ?_
    refine zK ?_
    refine zL ?_
    refine zE ?_
    refine zA ?_
    refine zB ?_
    refine wl_pure Tryz.hT rfl rfl rfl ?_
    refine wl_nil ?_
    refine zE ?_
    refine zO ?_
    have e : k = l.length := by simp at h; omega
    rw [e, List.drop_length] at hi
    exact ne_ret1 Tryz.hT rfl (.tmp rfl) () (by rw [hi]; rfl) trivial fun W _ => NewBx.nil _ _
  · have hk : k < l.length := by simp at h; omega
    clear h
    obtain ⟨b, off, rfl, hrow⟩ := hR.row hk
    refine zI ?_
    refine zE ?_
    refine zA ?_
    refine zH ?_
    refine zA ?_
    refine zB ?_
    refine wl_pure Tryz.hT rfl rfl rfl ?_
    refine wl_pure Tryz.hT rfl rfl rfl ?_
    refine wl_nil ?_
    refine zE ?_
    refine zA ?_
    refine zB ?_
    refine wl_pure Tryz.hT rfl rfl rfl ?_
    refine wl_pure Tryz.hT rfl rfl rfl ?_
    refine wl_pure Tryz.hT rfl rfl rfl ?_
    refine wl_indexAddr Tryz.hT rfl rfl rfl rfl rfl rfl rfl (by omega) (by omega) ?_
    refine wl_load rfl rfl rfl rfl (fun W hp => RowAt.load 0 Tryz.hT rfl ((fun W hp => (hrow k hk).hp hp) W hp) rfl) ?_
    refine wl_call1 (g := g) (v := .bool (f (sd l k))) rfl rfl rfl rfl rfl rfl hE (fun W _ => hf (sd l k) W) ?_
    have hd : l.drop k = sd l k :: l.drop (k + 1) := by
      rw [List.drop_eq_getElem_cons hk]; simp [sd, hk]
    have hstep : idxF f (l.drop k) k = if f (sd l k) = true then (k : Int) else idxF f (l.drop (k + 1)) (k + 1) := by rw [hd]; rfl
    rw [hstep] at hi
    refine zC ?_
    refine zE ?_
    refine wc_cond rfl (fun h => ?_) (fun h => ?_)
    · refine zA ?_
      refine zB ?_
      refine wl_pure Tryz.hT rfl rfl rfl ?_
      refine wl_pure Tryz.hT rfl rfl rfl ?_
      refine wl_nil ?_
      refine zE ?_
      refine zO ?_
      refine zQ ?_
      refine zP ?_
      refine zP ?_
      refine zQ ?_
      refine zP ?_
      rw [if_pos h] at hi
      exact ne_ret1 Tryz.hT rfl (.tmp rfl) () (by rw [hi]) trivial fun W _ => NewBx.nil _ _
    · refine zI ?_
      refine zN ?_
      refine zE ?_
      refine zB ?_
      refine wl_pure Tryz.hT rfl rfl rfl ?_
      refine wl_pure Tryz.hT rfl rfl rfl ?_
      refine wl_nil ?_
      rw [if_neg (by rw [h]; decide)] at hi
      exact ne_loop (k + 1) ⟨hk, hi⟩ (by omega) ⟨rfl, rfl, rfl, congrArg (fun z => some (Value.int .i64 z)) (wrap_id (x := (k : Int) + 1) (by omega) (by omega)), trivial⟩ [] rfl
theorem containsSd_gives (g : Nat) (hE : entersB Tryz.prog g = true) (f : Sd → Bool) (hf : ∀ s, Gives Tryz.prog g [s.val] (.bool (f s))) (W : World) (p : Option Addr) (cap : Nat) (l : List Sd) (hn : l.length < 4611686018427387904) (hR : RingP W p l) :
    CallsR Tryz.prog 55 #[slv p l.length cap, .func (.func g) #[] #[]] W (fun _ : Unit => .bool (l.any f)) (fun _ => True) (fun _ => []) := by
  refine calls_enter (args := [slv p l.length cap, .func (.func g) #[] #[]]) Tryz.func55 rfl rfl rfl ?_
  refine zA ?_
  refine zB ?_
  refine wl_pure Tryz.hT rfl rfl rfl ?_
  refine zC ?_
  refine zE ?_
  refine zA ?_
  refine zB ?_
  refine wl_pure Tryz.hT rfl rfl rfl ?_
  refine wl_pure Tryz.hT rfl rfl rfl ?_
  refine wl_call1 rfl rfl rfl rfl rfl rfl (by kernel_rfl) (fun W hp => indexSd_gives g hE f hf W p cap l hn (hR.hp hp)) ?_
  refine wl_pure Tryz.hT rfl rfl rfl ?_
  refine wl_pure Tryz.hT rfl rfl rfl ?_
  refine zC ?_
  refine zE ?_
  refine zO ?_
  exact ne_ret1 Tryz.hT rfl (.tmp rfl) () (by rw [idxF_any]) trivial fun W _ => NewBx.nil _ _
theorem indexRg_gives (g : Nat) (hE : entersB Tryz.prog g = true) (f : List Sd → Bool) (hf : ∀ W p cap l, l.length < 4611686018427387904 → RingP W p l → CallsR Tryz.prog g #[slv p l.length cap] W (fun _ : Unit => .bool (f l)) (fun _ => True) (fun _ => [])) (W : World) (p : Option Addr) (cap : Nat) (rs : List (List Sd)) (hn : rs.length < 4611686018427387904) (hl : ∀ l ∈ rs, l.length < 4611686018427387904) (hR : RingsP W p rs) :
    CallsR Tryz.prog 114 #[slv p rs.length cap, .func (.func g) #[] #[]] W (fun _ : Unit => .int .i64 (idxF f rs 0)) (fun _ => True) (fun _ => []) := by
  refine calls_enter (args := [slv p rs.length cap, .func (.func g) #[] #[]]) Tryz.func114 rfl rfl rfl ?_
  refine zA ?_
  refine zB ?_
  refine wl_pure Tryz.hT rfl rfl rfl ?_
  refine wl_nil ?_
  refine zE ?_
  refine zA ?_
  refine zA ?_
  refine zB ?_
  refine wl_pure Tryz.hT rfl rfl rfl ?_
  refine wl_pure Tryz.hT rfl rfl rfl ?_
  refine wl_pure Tryz.hT rfl rfl rfl ?_
  refine wl_nil ?_
  refine zE ?_
  refine zH ?_
  refine wc_loop (X := Nat) (fun k => [(0, slv p rs.length cap), (1, .func (.func g) #[] #[]), (7, .int .i64 (rs.length : Nat)), (8, .int .i64 (k : Nat))]) (fun _ => [])
    (fun k => k ≤ rs.length ∧ idxF f rs 0 = idxF f (rs.drop k) k) (fun k => rs.length - k) 0 ⟨Nat.zero_le _, rfl⟩ ⟨rfl, rfl, rfl, rfl, trivial⟩ [] rfl ?_
  rintro k ⟨hk, hi⟩
  refine zA ?_
  refine zB ?_
  refine wl_pure Tryz.hT rfl rfl rfl ?_
  refine wl_nil ?_
  refine zE ?_
  refine zA ?_
  refine wc_cond rfl (fun h => ?_) (fun h => ?_)
  rotate_left
  · refine zJ ?_
    refine zK ?_
    refine zK ?_
    refine zL ?_
    refine zE ?_
    refine zA ?_
    refine zB ?_
    refine wl_pure Tryz.hT rfl rfl rfl ?_
    refine wl_nil ?_
    refine zE ?_
    refine zO ?_
    have e : k = rs.length := by simp at h; omega
    rw [e, List.drop_length] at hi
    exact ne_ret1 Tryz.hT rfl (.tmp rfl) () (by rw [hi]; rfl) trivial fun W _ => NewBx.nil _ _
  · have hk : k < rs.length := by simp at h; omega
    clear h
    obtain ⟨b, off, rfl, hrow⟩ := hR.row hk
    obtain ⟨q, cap2, hq1, hq2⟩ := hrow k hk
    refine zI ?_
    refine zE ?_
    refine zA ?_
    refine zH ?_
    refine zA ?_
    refine zB ?_
    refine wl_pure Tryz.hT rfl rfl rfl ?_
    refine wl_pure Tryz.hT rfl rfl rfl ?_
    refine wl_nil ?_
    refine zE ?_
    refine zA ?_
    refine zB ?_
    refine wl_pure Tryz.hT rfl rfl rfl ?_
    refine wl_pure Tryz.hT rfl rfl rfl ?_
    refine wl_pure Tryz.hT rfl rfl rfl ?_
    refine wl_indexAddr Tryz.hT rfl rfl rfl rfl rfl rfl rfl (by omega) (by omega) ?_
    refine wl_load rfl rfl rfl rfl (fun W hp => RowAt.load 0 Tryz.hT rfl ((fun W hp => hq1.hp hp) W hp) rfl) ?_
    refine wl_call1 (g := g) (v := .bool (f (rg rs k))) rfl rfl rfl rfl rfl rfl hE (fun W hp => hf W q cap2 (rg rs k) (hl _ (List.mem_of_getElem? (rg_get hk))) (hq2.hp hp)) ?_
    have hd : rs.drop k = rg rs k :: rs.drop (k + 1) := by
      rw [List.drop_eq_getElem_cons hk]; simp [rg, hk]
    have hstep : idxF f (rs.drop k) k = if f (rg rs k) = true then (k : Int) else idxF f (rs.drop (k + 1)) (k + 1) := by rw [hd]; rfl
    rw [hstep] at hi
    refine zC ?_
    refine zE ?_
    refine wc_cond rfl (fun h => ?_) (fun h => ?_)
    · refine zA ?_
      refine zB ?_
      refine wl_pure Tryz.hT rfl rfl rfl ?_
      refine wl_pure Tryz.hT rfl rfl rfl ?_
      refine wl_nil ?_
      refine zE ?_
      refine zO ?_
      refine zQ ?_
      refine zP ?_
      refine zP ?_
      refine zQ ?_
      refine zP ?_
      rw [if_pos h] at hi
      exact ne_ret1 Tryz.hT rfl (.tmp rfl) () (by rw [hi]) trivial fun W _ => NewBx.nil _ _
    · refine zI ?_
      refine zN ?_
      refine zE ?_
      refine zB ?_
      refine wl_pure Tryz.hT rfl rfl rfl ?_
      refine wl_pure Tryz.hT rfl rfl rfl ?_
      refine wl_nil ?_
      rw [if_neg (by rw [h]; decide)] at hi
      exact ne_loop (k + 1) ⟨hk, hi⟩ (by omega) ⟨rfl, rfl, rfl, congrArg (fun z => some (Value.int .i64 z)) (wrap_id (x := (k : Int) + 1) (by omega) (by omega)), trivial⟩ [] rfl
theorem containsRg_gives (g : Nat) (hE : entersB Tryz.prog g = true) (f : List Sd → Bool) (hf : ∀ W p cap l, l.length < 4611686018427387904 → RingP W p l → CallsR Tryz.prog g #[slv p l.length cap] W (fun _ : Unit => .bool (f l)) (fun _ => True) (fun _ => [])) (W : World) (p : Option Addr) (cap : Nat) (rs : List (List Sd)) (hn : rs.length < 4611686018427387904) (hl : ∀ l ∈ rs, l.length < 4611686018427387904) (hR : RingsP W p rs) :
    CallsR Tryz.prog 58 #[slv p rs.length cap, .func (.func g) #[] #[]] W (fun _ : Unit => .bool (rs.any f)) (fun _ => True) (fun _ => []) := by
  refine calls_enter (args := [slv p rs.length cap, .func (.func g) #[] #[]]) Tryz.func58 rfl rfl rfl ?_
  refine zA ?_
  refine zB ?_
  refine wl_pure Tryz.hT rfl rfl rfl ?_
  refine zC ?_
  refine zE ?_
  refine zA ?_
  refine zB ?_
  refine wl_pure Tryz.hT rfl rfl rfl ?_
  refine wl_pure Tryz.hT rfl rfl rfl ?_
  refine wl_call1 rfl rfl rfl rfl rfl rfl (by kernel_rfl) (fun W hp => indexRg_gives g hE f hf W p cap rs hn hl (hR.below (Nat.le_refl _) hp.below)) ?_
  refine wl_pure Tryz.hT rfl rfl rfl ?_
  refine wl_pure Tryz.hT rfl rfl rfl ?_
  refine zC ?_
  refine zE ?_
  refine zO ?_
  exact ne_ret1 Tryz.hT rfl (.tmp rfl) () (by rw [idxF_any]) trivial fun W _ => NewBx.nil _ _
theorem check1_gives (s : Sd) : Gives Tryz.prog 56 [s.val] (.bool (!rgd s)) := by
  intro W
  refine calls_enter Tryz.func56 rfl rfl rfl ?_
  refine zA ?_
  refine zB ?_
  refine wl_box rfl rfl rfl rfl ?_
  intro
  refine wl_pure Tryz.hT rfl rfl rfl ?_
  refine zC ?_
  refine zE ?_
  refine zA ?_
  refine zB ?_
  refine wl_loadBx 0 Tryz.hT rfl rfl rfl rfl rfl rfl rfl rfl ?_
  refine wl_call1 rfl rfl rfl rfl rfl rfl (by kernel_rfl) (fun W _ => (ranged_gives ..)) ?_
  refine wl_pure Tryz.hT rfl rfl rfl ?_
  refine wl_pure Tryz.hT rfl rfl rfl ?_
  refine zC ?_
  refine zE ?_
  refine zO ?_
  exact ne_ret1 Tryz.hT rfl (.tmp rfl) () rfl trivial fun W _ => NewBx.nil _ _
theorem check2_gives (W : World) (p : Option Addr) (cap : Nat) (l : List Sd) (hn : l.length < 4611686018427387904) (hR : RingP W p l) :
    CallsR Tryz.prog 59 #[slv p l.length cap] W (fun _ : Unit => .bool (!shp l)) (fun _ => True) (fun _ => []) := by
  refine calls_enter (args := [slv p l.length cap]) Tryz.func59 rfl rfl rfl ?_
  refine zA ?_
  refine zB ?_
  refine wl_pure Tryz.hT rfl rfl rfl ?_
  refine zC ?_
  refine zE ?_
  refine zA ?_
  refine zB ?_
  refine wl_pure Tryz.hT rfl rfl rfl ?_
  refine wl_call1 rfl rfl rfl rfl rfl rfl (by kernel_rfl) (fun W hp => shaped_gives W p cap l hn (hR.hp hp)) ?_
  refine wl_pure Tryz.hT rfl rfl rfl ?_
  refine wl_pure Tryz.hT rfl rfl rfl ?_
  refine zC ?_
  refine zE ?_
  refine zO ?_
  exact ne_ret1 Tryz.hT rfl (.tmp rfl) () rfl trivial fun W _ => NewBx.nil _ _
end Go.Proofs.YtnpfkmbcejgnjaaGreatDoor
