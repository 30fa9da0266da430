/-
  The iterator over the sides of a ring, with their neighbours.
-/
import Derived.Test.YtnpfkmbcejgnjaaGreatDoorRing
namespace Go.Proofs.YtnpfkmbcejgnjaaGreatDoor
-- OLD
open Go Go.RowKit Go.Am
set_option maxRecDepth 10000
theorem sides_gives (p : Option Addr) (n cap : Nat) (W : World) : CallsR Tryz.prog 103 #[slv p n cap] W (fun b : Nat => .func (.func 151) #[] #[.pointer (some ⟨b, 0, none⟩)]) (fun _ => True) (fun b => [⟨b, 27, [slv p n cap], true, none⟩]) := by
  refine calls_enter (args := [slv p n cap]) Tryz.func103 rfl rfl rfl ?_
  refine zA ?_
  refine zB ?_
  refine wl_box rfl rfl rfl rfl ?_; intro b
  refine wl_pure Tryz.hT rfl rfl rfl ?_
  refine zC ?_
  refine zE ?_
  refine zA ?_
  refine zB ?_
  refine wl_pure Tryz.hT rfl rfl rfl ?_
  refine wl_pure Tryz.hT rfl rfl rfl ?_
  refine zC ?_
  refine zE ?_
  refine zO ?_
  exact ne_ret1 Tryz.hT rfl (.tmp rfl) b rfl trivial fun W hp => NewBx.of_hp hp

theorem w64_id {x : Int} (h1 : -9223372036854775808 ≤ x) (h2 : x < 9223372036854775808) : w64 x = x := wrap_id h1 h2
theorem w64_range (x : Int) : -9223372036854775808 ≤ w64 x ∧ w64 x < 9223372036854775808 := wrap_range x
/-- The side, the one before it and the one behind it. -/
def prv (n i : Nat) : Nat := (i + n - 1) % n
def nxt (n i : Nat) : Nat := (i + 1) % n
abbrev encSide (l : List Sd) (k : Nat) : List Value := [.int .i64 k, arVal (sd l (prv l.length k)) (sd l k) (sd l (nxt l.length k))]
/-- What the iterator reads: its variable, and the ring. -/
structure SidesNeed (b : Nat) (p : Option Addr) (cap : Nat) (l : List Sd) (W : World) : Prop where
  var : RowAt W b 0 [slv p l.length cap]
  ring : RingP W p l
theorem sides_iter (b : Nat) (p : Option Addr) (cap : Nat) (l : List Sd) (hn : l.length < 4611686018427387904) :
    Iter Tryz.prog 151 [.pointer (some ⟨b, 0, none⟩)] l.length (encSide l) (SidesNeed b p cap l) := by
  refine ⟨fun y J Jx hNeed hdr hY W hJ => ?_⟩
  refine iter_enter (args := [.func (.yield y) #[] #[], .pointer (some ⟨b, 0, none⟩)]) (J0 := J 0) Tryz.func151 rfl rfl rfl hJ ?_
  refine zA ?_
  refine zB ?_
  refine wl_load rfl rfl rfl rfl (fun W hp => RowAt.load 0 Tryz.hT rfl ((fun W hp => (hNeed 0 W hp).var) W hp) rfl) ?_
  refine wl_pure Tryz.hT rfl rfl rfl ?_
  refine wl_pure Tryz.hT rfl rfl rfl ?_
  refine zC ?_
  refine zE ?_
  refine zA ?_
  refine zB ?_
  refine wl_load rfl rfl rfl rfl (fun W hp => RowAt.load 0 Tryz.hT rfl ((fun W hp => (hNeed 0 W hp).var) W hp) rfl) ?_
  refine wl_pure Tryz.hT rfl rfl rfl ?_
  refine wl_pure Tryz.hT rfl rfl rfl ?_
  refine zC ?_
  refine zE ?_
  refine zH ?_
  refine wc_loopA (X := Nat) (fun k => [(0, .func (.yield y) #[] #[]), (1, .pointer (some ⟨b, 0, none⟩)), (3, .int .i64 (l.length : Nat)), (8, .int .i64 (l.length : Nat)), (9, .int .i64 (k : Nat))]) J (fun k => k ≤ l.length) (fun k => l.length - k) 0 (Nat.zero_le _) ⟨rfl, rfl, rfl, rfl, rfl, trivial⟩ (fun W h => h) ?_
  intro k hk
  refine zA ?_
  refine zB ?_
  refine wl_pure Tryz.hT rfl rfl rfl ?_
  refine zC ?_
  refine zE ?_
  refine zA ?_
  refine wc_cond rfl ?_ ?_
  rotate_left
  · intro h
    refine zJ ?_
    refine zK ?_
    refine zK ?_
    refine zL ?_
    have : k = l.length := by simp at h; omega
    subst this
    exact ne_iter rfl fun W h => h
  intro h
  have hk : k < l.length := by simp at h; omega
  clear h
  refine zI ?_
  refine zE ?_
  refine zA ?_
  refine zH ?_
  refine zA ?_
  refine zB ?_
  refine wl_pure Tryz.hT rfl rfl rfl ?_
  refine wl_pure Tryz.hT rfl rfl rfl ?_
  refine zC ?_
  refine zE ?_
  refine zA ?_
  have hz : (l.length : Int) ≠ 0 := by omega
  have e1 : (w64 (w64 ((k : Int) + (l.length : Int)) - 1)).tmod (l.length : Int) = ((prv l.length k : Nat) : Int) := by
    rw [w64_id (x := (k : Int) + l.length) (by omega) (by omega), w64_id (by omega) (by omega)]
    have : (k : Int) + l.length - 1 = ((k + l.length - 1 : Nat) : Int) := by omega
    rw [this]; rfl
  have e2 : (w64 ((k : Int) + 1)).tmod (l.length : Int) = ((nxt l.length k : Nat) : Int) := by
    rw [w64_id (x := (k : Int) + 1) (by omega) (by omega)]
    rfl
  have l1 : prv l.length k < l.length := Nat.mod_lt _ (by omega)
  have l2 : nxt l.length k < l.length := Nat.mod_lt _ (by omega)
  refine wc_draw 23 (hdr k) Tryz.mixed (by kernel_rfl) rfl ?_
  refine wq_pure Tryz.hT rfl rfl rfl ?_
  refine wq_pure Tryz.hT rfl rfl rfl ?_
  refine wq_load rfl rfl rfl rfl (fun W hp => RowAt.load 0 Tryz.hT rfl ((fun W hp => (hNeed k W hp).var) W hp) rfl) ?_
  refine wq_pure Tryz.hT rfl rfl rfl ?_
  refine wq_pure Tryz.hT rfl rfl rfl ?_
  refine wq_pure Tryz.hT rfl rfl rfl ?_
  refine wq_pure Tryz.hT rfl rfl rfl ?_
  refine wq_pure Tryz.hT rfl rfl rfl ?_
  refine wq_rem rfl rfl rfl rfl rfl hz ?_
  refine wq_upd 20 _ rfl (congrArg (Value.int .i64) e1) ?_
  obtain ⟨b2, off, rfl, hrow⟩ : ∃ b2 off, p = some ⟨b2, off, none⟩ ∧ ∀ i, i < l.length → ∀ W, J k W → RowAt W b2 (off + i * 7) (sd l i).cells := by
    obtain ⟨b2, off, e, _⟩ := (hNeed 0 W hJ).ring.row hk
    refine ⟨b2, off, e, fun i hi W hW => ?_⟩
    obtain ⟨b3, off3, e', h⟩ := (hNeed k W hW).ring.row hk
    rw [e] at e'
    cases e'
    exact h i hi
  refine wq_indexAddr Tryz.hT rfl rfl rfl rfl rfl rfl rfl (by omega) (by omega) ?_
  refine wq_load rfl rfl rfl rfl (fun W hp => RowAt.load 0 Tryz.hT rfl ((hrow _ l1) W hp) rfl) ?_
  refine wq_load rfl rfl rfl rfl (fun W hp => RowAt.load 0 Tryz.hT rfl ((fun W hp => (hNeed k W hp).var) W hp) rfl) ?_
  refine wq_pure Tryz.hT rfl rfl rfl ?_
  refine wq_indexAddr Tryz.hT rfl rfl rfl rfl rfl rfl rfl (by omega) (by omega) ?_
  refine wq_load rfl rfl rfl rfl (fun W hp => RowAt.load 0 Tryz.hT rfl ((hrow _ hk) W hp) rfl) ?_
  refine wq_load rfl rfl rfl rfl (fun W hp => RowAt.load 0 Tryz.hT rfl ((fun W hp => (hNeed k W hp).var) W hp) rfl) ?_
  refine wq_pure Tryz.hT rfl rfl rfl ?_
  refine wq_pure Tryz.hT rfl rfl rfl ?_
  refine wq_pure Tryz.hT rfl rfl rfl ?_
  refine wq_rem rfl rfl rfl rfl rfl hz ?_
  refine wq_upd 31 _ rfl (congrArg (Value.int .i64) e2) ?_
  refine wq_indexAddr Tryz.hT rfl rfl rfl rfl rfl rfl rfl (by omega) (by omega) ?_
  refine wq_load rfl rfl rfl rfl (fun W hp => RowAt.load 0 Tryz.hT rfl ((hrow _ l2) W hp) rfl) ?_
  refine wq_build (arVal default default default) Tryz.hT rfl rfl rfl rfl rfl (fun W => by kernel_rfl) rfl rfl ?_
  refine zD ?_
  refine wl_yield (A1 := J (k+1)) (A2 := Jx) rfl rfl rfl rfl rfl rfl (fun W hp => hY k W hk hp) ?_ ?_
  · refine wl_pure Tryz.hT rfl rfl rfl ?_
    refine zC ?_
    refine zE ?_
    refine zS rfl ?_
    refine zI ?_
    refine zN ?_
    refine zE ?_
    refine zB ?_
    refine wl_pure Tryz.hT rfl rfl rfl ?_
    refine wl_pure Tryz.hT rfl rfl rfl ?_
    refine zC ?_
    exact ne_loopA (k + 1) hk (by omega) ⟨rfl, rfl, rfl, rfl, congrArg (fun z => some (Value.int .i64 z)) (wrap_id (x := (k : Int) + 1) (by omega) (by omega)), trivial⟩ (fun W h => h)
  · refine wl_pure Tryz.hT rfl rfl rfl ?_
    refine zC ?_
    refine zE ?_
    refine zR rfl ?_
    refine zO ?_
    refine zQ ?_
    refine zP ?_
    refine zP ?_
    refine zQ ?_
    exact ne_iter_stop rfl (fun W h => h)
end Go.Proofs.YtnpfkmbcejgnjaaGreatDoor
