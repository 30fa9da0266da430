/-
  Rings in memory; the small functions of package plan, and its iterator.
-/
import Derived.Test.YtnpfkmbcejgnjaaGreatDoorTab
namespace Go.Proofs.YtnpfkmbcejgnjaaGreatDoor
-- OLD
open Go Go.RowKit Go.Am
set_option maxRecDepth 10000
structure Sd where
  x : Int
  y : Int
  rise : Int
  run : Int
  gable : Bool
  plate : Int
  over : Int
  deriving DecidableEq, Inhabited
abbrev Sd.cells (s : Sd) : List Value := [.int .i64 s.x, .int .i64 s.y, .int .i64 s.rise, .int .i64 s.run, .bool s.gable, .int .i64 s.plate, .int .i64 s.over]
abbrev Sd.val (s : Sd) : Value := .agg #[.int .i64 s.x, .int .i64 s.y, .int .i64 s.rise, .int .i64 s.run, .bool s.gable, .int .i64 s.plate, .int .i64 s.over]
abbrev spot (x y : Int) : Value := .agg #[.int .i64 x, .int .i64 y]
abbrev arVal (s t u : Sd) : Value := .agg #[.int .i64 s.x, .int .i64 s.y, .int .i64 s.rise, .int .i64 s.run, .bool s.gable, .int .i64 s.plate, .int .i64 s.over, .int .i64 t.x, .int .i64 t.y, .int .i64 t.rise, .int .i64 t.run, .bool t.gable, .int .i64 t.plate, .int .i64 t.over, .int .i64 u.x, .int .i64 u.y, .int .i64 u.rise, .int .i64 u.run, .bool u.gable, .int .i64 u.plate, .int .i64 u.over]
abbrev w64 (x : Int) : Int := IntKind.i64.wrap x

theorem corner_gives (s : Sd) : Gives Tryz.prog 104 [s.val] (spot s.x s.y) := by
  intro W
  refine calls_enter Tryz.func104 rfl rfl rfl ?_
  refine zA ?_
  refine zB ?_
  refine wl_box rfl rfl rfl rfl ?_
  intro
  refine wl_alloc (z := spot 0 0) rfl rfl rfl (fun W => by kernel_rfl) fun b3 => ?_
  refine zC ?_
  refine zE ?_
  refine zA ?_
  refine zB ?_
  refine wl_pure Tryz.hT rfl rfl rfl ?_
  refine wl_loadBx 0 Tryz.hT rfl rfl rfl rfl rfl rfl rfl rfl ?_
  refine wl_pure Tryz.hT rfl rfl rfl ?_
  refine wl_loadBx 0 Tryz.hT rfl rfl rfl rfl rfl rfl rfl rfl ?_
  refine wl_build (spot 0 0) Tryz.hT rfl rfl rfl rfl rfl (fun W => by kernel_rfl) rfl rfl ?_
  refine wl_storeBx 1 Tryz.hT rfl rfl rfl rfl rfl rfl rfl rfl rfl rfl rfl ?_
  refine zC ?_
  refine zE ?_
  refine zO ?_
  exact ne_ret1 Tryz.hT rfl (.cell 1 rfl rfl rfl rfl rfl) () rfl trivial fun W _ => NewBx.nil _ _
theorem to_gives (x y u v : Int) : Gives Tryz.prog 105 [spot x y, spot u v] (spot (w64 (u - x)) (w64 (v-y))) := by
  intro W
  refine calls_enter Tryz.func105 rfl rfl rfl ?_
  refine zA ?_
  refine zB ?_
  refine wl_box rfl rfl rfl rfl ?_
  intro
  refine wl_box rfl rfl rfl rfl ?_
  intro
  refine wl_alloc (z := spot 0 0) rfl rfl rfl (fun W => by kernel_rfl) fun b3 => ?_
  refine zC ?_
  refine zE ?_
  refine zA ?_
  refine zB ?_
  refine wl_pure Tryz.hT rfl rfl rfl ?_
  refine wl_loadBx 1 Tryz.hT rfl rfl rfl rfl rfl rfl rfl rfl ?_
  refine wl_pure Tryz.hT rfl rfl rfl ?_
  refine wl_loadBx 0 Tryz.hT rfl rfl rfl rfl rfl rfl rfl rfl ?_
  refine wl_pure Tryz.hT rfl rfl rfl ?_
  refine wl_pure Tryz.hT rfl rfl rfl ?_
  refine wl_loadBx 1 Tryz.hT rfl rfl rfl rfl rfl rfl rfl rfl ?_
  refine wl_pure Tryz.hT rfl rfl rfl ?_
  refine wl_loadBx 0 Tryz.hT rfl rfl rfl rfl rfl rfl rfl rfl ?_
  refine wl_pure Tryz.hT rfl rfl rfl ?_
  refine wl_build (spot 0 0) Tryz.hT rfl rfl rfl rfl rfl (fun W => by kernel_rfl) rfl rfl ?_
  refine wl_storeBx 2 Tryz.hT rfl rfl rfl rfl rfl rfl rfl rfl rfl rfl rfl ?_
  refine zC ?_
  refine zE ?_
  refine zO ?_
  exact ne_ret1 Tryz.hT rfl (.cell 2 rfl rfl rfl rfl rfl) () rfl trivial fun W _ => NewBx.nil _ _
theorem cross_gives (x y u v : Int) : Gives Tryz.prog 106 [spot x y, spot u v] (.int .i64 (w64 (w64 (x*v) - w64 (y*u)))) := by
  intro W
  refine calls_enter Tryz.func106 rfl rfl rfl ?_
  refine zA ?_
  refine zB ?_
  refine wl_box rfl rfl rfl rfl ?_
  intro
  refine wl_box rfl rfl rfl rfl ?_
  intro
  refine wl_pure Tryz.hT rfl rfl rfl ?_
  refine zC ?_
  refine zE ?_
  refine zA ?_
  refine zB ?_
  refine wl_pure Tryz.hT rfl rfl rfl ?_
  refine wl_loadBx 0 Tryz.hT rfl rfl rfl rfl rfl rfl rfl rfl ?_
  refine wl_pure Tryz.hT rfl rfl rfl ?_
  refine wl_loadBx 1 Tryz.hT rfl rfl rfl rfl rfl rfl rfl rfl ?_
  refine wl_pure Tryz.hT rfl rfl rfl ?_
  refine wl_pure Tryz.hT rfl rfl rfl ?_
  refine wl_loadBx 0 Tryz.hT rfl rfl rfl rfl rfl rfl rfl rfl ?_
  refine wl_pure Tryz.hT rfl rfl rfl ?_
  refine wl_loadBx 1 Tryz.hT rfl rfl rfl rfl rfl rfl rfl rfl ?_
  refine wl_pure Tryz.hT rfl rfl rfl ?_
  refine wl_pure Tryz.hT rfl rfl rfl ?_
  refine wl_pure Tryz.hT rfl rfl rfl ?_
  refine zC ?_
  refine zE ?_
  refine zO ?_
  exact ne_ret1 Tryz.hT rfl (.tmp rfl) () rfl trivial fun W _ => NewBx.nil _ _
theorem way_gives (s t u : Sd) : Gives Tryz.prog 107 [arVal s t u] (spot (w64 (u.x-t.x)) (w64 (u.y-t.y))) := by
  intro W
  refine calls_enter Tryz.func107 rfl rfl rfl ?_
  refine zA ?_
  refine zB ?_
  refine wl_box rfl rfl rfl rfl ?_
  intro
  refine wl_alloc (z := spot 0 0) rfl rfl rfl (fun W => by kernel_rfl) fun b3 => ?_
  refine zC ?_
  refine zE ?_
  refine zA ?_
  refine zT Tryz.mixed (by kernel_rfl) ?_
  refine wq_pure Tryz.hT rfl rfl rfl ?_
  refine wq_loadBx 0 Tryz.hT rfl rfl rfl rfl rfl rfl rfl rfl ?_
  refine wq_call1 rfl rfl rfl rfl rfl rfl (by kernel_rfl) (fun W _ => corner_gives t W) ?_
  refine wq_pure Tryz.hT rfl rfl rfl ?_
  refine wq_loadBx 0 Tryz.hT rfl rfl rfl rfl rfl rfl rfl rfl ?_
  refine wq_call1 rfl rfl rfl rfl rfl rfl (by kernel_rfl) (fun W _ => corner_gives u W) ?_
  refine wq_call1 rfl rfl rfl rfl rfl rfl (by kernel_rfl) (fun W _ => to_gives t.x t.y u.x u.y W) ?_
  refine zD ?_
  refine wl_storeBx 1 Tryz.hT rfl rfl rfl rfl rfl rfl rfl rfl rfl rfl rfl ?_
  refine zC ?_
  refine zE ?_
  refine zO ?_
  exact ne_ret1 Tryz.hT rfl (.cell 1 rfl rfl rfl rfl rfl) () rfl trivial fun W _ => NewBx.nil _ _
theorem left_gives (s t u : Sd) : Gives Tryz.prog 49 [arVal s t u] (.bool (decide (w64 (w64 (w64 (t.x - s.x) * w64 (u.y-t.y)) - w64 (w64 (t.y-s.y) * w64 (u.x-t.x))) > 0))) := by
  intro W
  refine calls_enter Tryz.func49 rfl rfl rfl ?_
  refine zA ?_
  refine zB ?_
  refine wl_box rfl rfl rfl rfl ?_
  intro
  refine wl_pure Tryz.hT rfl rfl rfl ?_
  refine zC ?_
  refine zE ?_
  refine zA ?_
  refine zT Tryz.mixed (by kernel_rfl) ?_
  refine wq_pure Tryz.hT rfl rfl rfl ?_
  refine wq_loadBx 0 Tryz.hT rfl rfl rfl rfl rfl rfl rfl rfl ?_
  refine wq_call1 rfl rfl rfl rfl rfl rfl (by kernel_rfl) (fun W _ => corner_gives s W) ?_
  refine wq_pure Tryz.hT rfl rfl rfl ?_
  refine wq_loadBx 0 Tryz.hT rfl rfl rfl rfl rfl rfl rfl rfl ?_
  refine wq_call1 rfl rfl rfl rfl rfl rfl (by kernel_rfl) (fun W _ => corner_gives t W) ?_
  refine wq_call1 rfl rfl rfl rfl rfl rfl (by kernel_rfl) (fun W _ => to_gives s.x s.y t.x t.y W) ?_
  refine wq_loadBx 0 Tryz.hT rfl rfl rfl rfl rfl rfl rfl rfl ?_
  refine wq_call1 rfl rfl rfl rfl rfl rfl (by kernel_rfl) (fun W _ => way_gives s t u W) ?_
  refine wq_call1 rfl rfl rfl rfl rfl rfl (by kernel_rfl) (fun W _ => cross_gives _ _ _ _ W) ?_
  refine wq_pure Tryz.hT rfl rfl rfl ?_
  refine wq_pure Tryz.hT rfl rfl rfl ?_
  refine zD ?_
  refine zC ?_
  refine zE ?_
  refine zO ?_
  exact ne_ret1 Tryz.hT rfl (.tmp rfl) () rfl trivial fun W _ => NewBx.nil _ _

/-- A ring lies in memory: the value of its slice. -/
structure RingAt (W : World) (b off : Nat) (l : List Sd) : Prop where
  get : ∀ (i : Nat) (s : Sd), l[i]? = some s → RowAt W b (off + i * 7) s.cells
def RingP (W : World) (p : Option Addr) (l : List Sd) : Prop := l = [] ∨ ∃ b off, p = some ⟨b, off, none⟩ ∧ RingAt W b off l
theorem RingP.below {W W' : World} {p : Option Addr} {l : List Sd} {n : Nat} (h : RingP W p l) (hn : W.heap.size ≤ n) (hb : Below n W W') : RingP W' p l := by
  rcases h with h | ⟨b, off, h1, h2⟩
  · exact .inl h
  · exact .inr ⟨b, off, h1, ⟨fun i s hs => (h2.get i s hs).below hn hb⟩⟩
theorem RingP.hp {W0 W : World} {bxs : List Bx} {p : Option Addr} {l : List Sd} (h : RingP W0 p l) (hp : Hp W0 bxs W) : RingP W p l := h.below (Nat.le_refl _) hp.below
/-- A side of a ring, by its place. -/
def sd (l : List Sd) (i : Nat) : Sd := l.getD i default
theorem sd_get {l : List Sd} {i : Nat} (h : i < l.length) : l[i]? = some (sd l i) := by simp [sd, h]
theorem RingP.row {W : World} {p : Option Addr} {l : List Sd} (h : RingP W p l) {i : Nat} (hi : i < l.length) : ∃ b off, p = some ⟨b, off, none⟩ ∧ ∀ k, k < l.length → RowAt W b (off + k * 7) (sd l k).cells := by
  rcases h with rfl | ⟨b, off, h1, h2⟩
  · simp at hi
  · exact ⟨b, off, h1, fun k hk => h2.get k _ (sd_get hk)⟩

abbrev slv (p : Option Addr) (n cap : Nat) : Value := .slice p n cap

end Go.Proofs.YtnpfkmbcejgnjaaGreatDoor
