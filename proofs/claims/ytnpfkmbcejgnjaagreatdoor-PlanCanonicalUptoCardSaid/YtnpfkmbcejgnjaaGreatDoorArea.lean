/-
  Twice the area of a ring, as the program sums it.
-/
import Derived.Test.YtnpfkmbcejgnjaaGreatDoorSides
namespace Go.Proofs.YtnpfkmbcejgnjaaGreatDoor
-- OLD
open Go Go.RowKit Go.Am
set_option maxRecDepth 10000
-- BOXES 6
theorem SidesNeed.mk' {W0 W : World} {bxs : List Bx} {b : Nat} {p : Option Addr} {cap : Nat} {l : List Sd} (h : RingP W0 p l) (hp : Hp W0 bxs W) (k : Nat) (hk : nth bxs k = some ⟨b, 27, [slv p l.length cap], true, none⟩) : SidesNeed b p cap l W :=
  ⟨RowAt.of_bx hp k hk rfl, h.hp hp⟩
/-- The sum of the first k cross products, as the program has it. -/
def areaUp (l : List Sd) : Nat → Int
  | 0 => 0
  | k + 1 => w64 (areaUp l k + w64 (w64 ((sd l k).x * (sd l (nxt l.length k)).y) - w64 ((sd l k).y * (sd l (nxt l.length k)).x)))
theorem area_gives (W : World) (p : Option Addr) (cap : Nat) (l : List Sd) (hn : l.length < 4611686018427387904) (hR : RingP W p l) :
    CallsR Tryz.prog 52 #[slv p l.length cap] W (fun _ : Unit => .int .i64 (areaUp l l.length)) (fun _ => True) (fun _ => []) := by
  refine calls_enter (args := [slv p l.length cap]) Tryz.func52 rfl rfl rfl ?_
  refine zA ?_
  refine zB ?_
  refine wl_pure Tryz.hT rfl rfl rfl ?_
  refine zC ?_
  refine zE ?_
  refine zA ?_
  refine zB ?_
  refine wl_alloc (z := .int .i64 0) rfl rfl rfl (fun W => by kernel_rfl) fun b3 => ?_
  refine wl_storeBx 0 Tryz.hT rfl rfl rfl rfl rfl rfl rfl rfl rfl rfl rfl ?_
  refine zC ?_
  refine zE ?_
  refine zA ?_
  refine zA ?_
  refine zB ?_
  refine wl_pure Tryz.hT rfl rfl rfl ?_
  refine wl_call (X := Nat) rfl rfl rfl rfl rfl rfl (by kernel_rfl) (fun W _ => sides_gives p l.length cap W) ?_
  intro b _
  refine zC ?_
  refine zE ?_
  refine zH ?_
  refine wc_range (X := Nat) (fun k => [⟨b3, 3, [.int .i64 (areaUp l k)], true, none⟩, ⟨b, 27, [slv p l.length cap], true, none⟩]) (fun k x => x = k) (fun _ _ => False) 0 rfl (by kernel_rfl) (sides_iter b p cap l hn) (fun _ => rfl) rfl [] rfl (fun k x W _ hp => SidesNeed.mk' hR hp 1 rfl) ?_ ?_ (fun _ _ _ _ _ h => h.elim)
  · intro k x d L rec hk hx hrec
    subst hx
    refine zB ?_
    refine wl_alloc (z := arVal default default default) rfl rfl rfl (fun W => by kernel_rfl) fun b5 => ?_
    refine wl_storeBx 4 Tryz.hT rfl rfl rfl rfl rfl rfl rfl rfl rfl rfl rfl ?_
    refine zC ?_
    refine ne_begin 3 hrec rfl ?_
    refine zH ?_
    refine zT Tryz.mixed (by kernel_rfl) ?_
    refine wq_loadBx 0 Tryz.hT rfl rfl rfl rfl rfl rfl rfl rfl ?_
    refine wq_pure Tryz.hT rfl rfl rfl ?_
    refine wq_loadBx 4 Tryz.hT rfl rfl rfl rfl rfl rfl rfl rfl ?_
    refine wq_call1 rfl rfl rfl rfl rfl rfl (by kernel_rfl) (fun W _ => corner_gives (sd l x) W) ?_
    refine wq_pure Tryz.hT rfl rfl rfl ?_
    refine wq_loadBx 4 Tryz.hT rfl rfl rfl rfl rfl rfl rfl rfl ?_
    refine wq_call1 rfl rfl rfl rfl rfl rfl (by kernel_rfl) (fun W _ => corner_gives (sd l (nxt l.length x)) W) ?_
    refine wq_call1 rfl rfl rfl rfl rfl rfl (by kernel_rfl) (fun W _ => cross_gives _ _ _ _ W) ?_
    refine wq_pure Tryz.hT rfl rfl rfl ?_
    refine zD ?_
    refine wl_storeBx 0 Tryz.hT rfl rfl rfl rfl rfl rfl rfl rfl rfl rfl rfl ?_
    refine zC ?_
    refine zN ?_
    exact ne_round 3 (x + 1) hrec rfl rfl [_] rfl
  · intro x d L rec hx
    subst hx
    refine zN ?_
    refine zE ?_
    refine zA ?_
    refine zB ?_
    refine wl_loadBx 0 Tryz.hT rfl rfl rfl rfl rfl rfl rfl rfl ?_
    refine wl_pure Tryz.hT rfl rfl rfl ?_
    refine zC ?_
    refine zE ?_
    refine zO ?_
    refine ne_mark 2 rfl ?_
    exact ne_ret1 Tryz.hT rfl (.tmp rfl) () rfl trivial fun W _ => NewBx.nil _ _
end Go.Proofs.YtnpfkmbcejgnjaaGreatDoor
