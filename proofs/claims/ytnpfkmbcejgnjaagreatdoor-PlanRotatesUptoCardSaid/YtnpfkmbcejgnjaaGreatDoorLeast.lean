/-
  The least coordinates of a plan.
-/
import Derived.Test.YtnpfkmbcejgnjaaGreatDoorShift
namespace Go.Proofs.YtnpfkmbcejgnjaaGreatDoor
open Go Go.RowKit Go.Am
set_option maxRecDepth 10000
-- BOXES 8
def lstF (q : Int × Int) (s : Sd) : Int × Int := (if s.x < q.1 then s.x else q.1, if s.y < q.2 then s.y else q.2)
def lstL (l : List Sd) : Int × Int := l.foldl lstF ((sd l 0).x, (sd l 0).y)
theorem lst_succ (l : List Sd) {k : Nat} (hk : k < l.length) (q : Int × Int) : (l.take (k + 1)).foldl lstF q = lstF ((l.take k).foldl lstF q) (sd l k) := by
  rw [List.take_add_one, sd_get hk, List.foldl_append]; rfl
set_option maxHeartbeats 4000000 in
theorem least_gives (W : World) (p : Option Addr) (cap : Nat) (rs : List (List Sd)) (hn : rs.length < 4611686018427387904) (hT : tot rs < 1099511627776) (h0 : tot rs ≠ 0) (hR : RingsP W p rs) (hne : ∀ l ∈ rs, l ≠ []) :
    CallsR Tryz.prog 72 #[planV p rs.length cap] W (fun _ : Unit => spot (lstL rs.flatten).1 (lstL rs.flatten).2) (fun _ => True) (fun _ => []) := by
  refine calls_enter (args := [planV p rs.length cap]) Tryz.func72 rfl rfl rfl ?_
  refine zA ?_
  refine zB ?_
  (refine wl_box rfl rfl rfl rfl ?_; intro)
  (refine wl_allocZ Tryz.hZ rfl rfl rfl rfl ?_; intro)
  refine wl_nil ?_
  rename_i b1 b2
  refine zE ?_
  refine zA ?_
  refine zB ?_
  refine wl_pure Tryz.hT rfl rfl rfl ?_
  refine wl_loadBx 0 Tryz.hT rfl rfl rfl rfl rfl rfl rfl rfl ?_
  refine wl_call (X := Vec) rfl rfl rfl rfl rfl rfl (by kernel_rfl) (fun W hp => concat_gives W p cap rs hn hT (hR.hp hp) hne) ?_
  intro V hV
  have hlen := flat_len rs
  generalize rs.flatten = l at hlen hV ⊢
  obtain ⟨pv, cv, jv⟩ := V
  have hl0 : 0 < l.length := by omega
  cases pv with
  | none => exact absurd (hV.nil rfl) (by omega)
  | some gv =>
  refine wl_pure Tryz.hT rfl rfl rfl ?_
  refine wl_nil ?_
  refine zE ?_
  refine zA ?_
  refine zB ?_
  refine wl_pure Tryz.hT rfl rfl rfl ?_
  refine wl_indexAddr Tryz.hT rfl rfl rfl rfl rfl rfl rfl (by omega) (by omega) ?_
  refine wl_load rfl rfl rfl rfl (fun W hp => RowAt.load 0 Tryz.hT rfl ((fun W hp => Vec.rowAt (f := Sd.cells) (n := 7) (fun _ => rfl) hp 2 rfl (sd_get hl0)) W hp) rfl) ?_
  refine wl_call1 rfl rfl rfl rfl rfl rfl (by kernel_rfl) (fun W _ => (corner_gives ..)) ?_
  (refine wl_allocZ Tryz.hZ rfl rfl rfl rfl ?_; intro)
  refine wl_storeBx 3 Tryz.hT rfl rfl rfl rfl rfl rfl rfl rfl rfl rfl rfl ?_
  refine wl_nil ?_
  rename_i b4
  refine zE ?_
  refine zA ?_
  refine zA ?_
  refine zB ?_
  refine wl_pure Tryz.hT rfl rfl rfl ?_
  refine wl_pure Tryz.hT rfl rfl rfl ?_
  refine wl_pure Tryz.hT rfl rfl rfl ?_
  refine wl_nil ?_
  refine zE ?_
  refine zH ?_
  refine wc_loop (X := Nat) (fun k => [(1, .pointer (some ⟨b1, 0, none⟩)), (2, .pointer (some ⟨b2, 0, none⟩)), (4, .pointer (some ⟨b4, 0, none⟩)), (14, slv (some ⟨gv, 0, none⟩) l.length cv), (15, .int .i64 (l.length : Nat)), (16, .int .i64 (k : Nat))])
    (fun k => [⟨b1, 24, [slv p rs.length cap], true, none⟩, ⟨b2, 87, [.int .i64 0, .int .i64 0], true, none⟩, (⟨some gv, cv, jv⟩ : Vec).bx 42 (cellsOf l), ⟨b4, 87, [.int .i64 ((l.take k).foldl lstF ((sd l 0).x, (sd l 0).y)).1, .int .i64 ((l.take k).foldl lstF ((sd l 0).x, (sd l 0).y)).2], true, none⟩])
    (fun k => k ≤ l.length) (fun k => l.length - k) 0 (Nat.zero_le _) ⟨rfl, rfl, rfl, rfl, rfl, rfl, trivial⟩ [] rfl ?_
  intro k hk
  refine zA ?_
  refine zB ?_
  refine wl_pure Tryz.hT rfl rfl rfl ?_
  refine wl_nil ?_
  refine zE ?_
  refine zA ?_
  refine wc_cond rfl (fun h => ?_) (fun h => ?_)
  · have hk : k < l.length := by simp at h; omega
    clear h
    have hs := lst_succ l hk ((sd l 0).x, (sd l 0).y)
    generalize (l.take k).foldl lstF ((sd l 0).x, (sd l 0).y) = q at hs ⊢
    refine zI ?_
    refine zE ?_
    refine zA ?_
    refine zH ?_
    refine zA ?_
    refine zB ?_
    refine wl_indexAddr Tryz.hT rfl rfl rfl rfl rfl rfl rfl (by omega) (by omega) ?_
    refine wl_load rfl rfl rfl rfl (fun W hp => RowAt.load 0 Tryz.hT rfl ((fun W hp => Vec.rowAt (f := Sd.cells) (n := 7) (fun _ => rfl) hp 2 rfl (sd_get hk)) W hp) rfl) ?_
    (refine wl_allocZ Tryz.hZ rfl rfl rfl rfl ?_; intro)
    refine wl_storeBx 4 Tryz.hT rfl rfl rfl rfl rfl rfl rfl rfl rfl rfl rfl ?_
    refine wl_nil ?_
    refine zE ?_
    refine zB ?_
    refine wl_pure Tryz.hT rfl rfl rfl ?_
    refine wl_loadBx 3 Tryz.hT rfl rfl rfl rfl rfl rfl rfl rfl ?_
    refine wl_pure Tryz.hT rfl rfl rfl ?_
    refine wl_loadBx 4 Tryz.hT rfl rfl rfl rfl rfl rfl rfl rfl ?_
    refine wl_pure Tryz.hT rfl rfl rfl ?_
    refine wl_pure Tryz.hT rfl rfl rfl ?_
    refine wl_loadBx 3 Tryz.hT rfl rfl rfl rfl rfl rfl rfl rfl ?_
    refine wl_pure Tryz.hT rfl rfl rfl ?_
    refine wl_loadBx 4 Tryz.hT rfl rfl rfl rfl rfl rfl rfl rfl ?_
    refine wl_pure Tryz.hT rfl rfl rfl ?_
    refine wl_buildZ Tryz.hZ Tryz.hT rfl rfl rfl rfl rfl rfl rfl rfl ?_
    refine wl_storeBx 3 Tryz.hT rfl rfl rfl rfl rfl rfl rfl rfl rfl rfl rfl ?_
    refine wl_nil ?_
    refine zN ?_
    refine zE ?_
    refine zB ?_
    refine wl_pure Tryz.hT rfl rfl rfl ?_
    refine wl_pure Tryz.hT rfl rfl rfl ?_
    refine wl_nil ?_
    exact ne_loop (k + 1) hk (by omega) ⟨rfl, rfl, rfl, rfl, rfl, congrArg (fun z => some (Value.int .i64 z)) (wrap_id (x := (k : Int) + 1) (by omega) (by omega)), trivial⟩ [_]
      (by show _ = [_, _, _, (⟨b4, 87, [.int .i64 ((l.take (k + 1)).foldl lstF ((sd l 0).x, (sd l 0).y)).1, .int .i64 ((l.take (k + 1)).foldl lstF ((sd l 0).x, (sd l 0).y)).2], true, none⟩ : Bx)] ++ [_]; rw [hs]; rfl)
  · have e : k = l.length := by simp at h; omega
    subst e
    clear h
    rw [List.take_length]
    refine zJ ?_
    refine zK ?_
    refine zK ?_
    refine zL ?_
    refine zE ?_
    refine zA ?_
    refine zB ?_
    refine wl_loadBx 3 Tryz.hT rfl rfl rfl rfl rfl rfl rfl rfl ?_
    refine wl_storeBx 1 Tryz.hT rfl rfl rfl rfl rfl rfl rfl rfl rfl rfl rfl ?_
    refine wl_nil ?_
    refine zE ?_
    refine zO ?_
    exact ne_ret1 Tryz.hT rfl (.cell 1 rfl rfl rfl rfl rfl) () rfl trivial fun W _ => NewBx.nil _ _
/-- A quarter turn. -/
def rotF (x y : Int) : Int × Int := (w64 (0 - y), x)
theorem rot1_gives (x y : Int) (W : World) : CallsR Tryz.prog 73 #[spot x y] W (fun _ : Unit => spot (rotF x y).1 (rotF x y).2) (fun _ => True) (fun _ => []) := by
  refine calls_enter (args := [spot x y]) Tryz.func73 rfl rfl rfl ?_
  refine zA ?_
  refine zB ?_
  (refine wl_box rfl rfl rfl rfl ?_; intro)
  (refine wl_allocZ Tryz.hZ rfl rfl rfl rfl ?_; intro)
  refine wl_nil ?_
  refine zE ?_
  refine zA ?_
  refine zB ?_
  refine wl_pure Tryz.hT rfl rfl rfl ?_
  refine wl_loadBx 0 Tryz.hT rfl rfl rfl rfl rfl rfl rfl rfl ?_
  refine wl_pure Tryz.hT rfl rfl rfl ?_
  refine wl_pure Tryz.hT rfl rfl rfl ?_
  refine wl_loadBx 0 Tryz.hT rfl rfl rfl rfl rfl rfl rfl rfl ?_
  refine wl_buildZ Tryz.hZ Tryz.hT rfl rfl rfl rfl rfl rfl rfl rfl ?_
  refine wl_storeBx 1 Tryz.hT rfl rfl rfl rfl rfl rfl rfl rfl rfl rfl rfl ?_
  refine wl_nil ?_
  refine zE ?_
  refine zO ?_
  exact ne_ret1 Tryz.hT rfl (.cell 1 rfl rfl rfl rfl rfl) () rfl trivial fun W _ => NewBx.nil _ _
/-- Back to where a plan began. -/
def homF (u v a b : Int) (x y : Int) : Int × Int := (w64 (w64 (x - u) + a), w64 (w64 (y - v) + b))
theorem rot2_gives (u v a b x y : Int) (W : World) (b1 b2 : Nat) (h1 : RowAt W b1 0 [.int .i64 u, .int .i64 v]) (h2 : RowAt W b2 0 [.int .i64 a, .int .i64 b]) :
    CallsR Tryz.prog 74 #[spot x y, .pointer (some ⟨b1, 0, none⟩), .pointer (some ⟨b2, 0, none⟩)] W (fun _ : Unit => spot (homF u v a b x y).1 (homF u v a b x y).2) (fun _ => True) (fun _ => []) := by
  refine calls_enter (args := [spot x y, .pointer (some ⟨b1, 0, none⟩), .pointer (some ⟨b2, 0, none⟩)]) Tryz.func74 rfl rfl rfl ?_
  refine zA ?_
  refine zB ?_
  (refine wl_box rfl rfl rfl rfl ?_; intro)
  (refine wl_allocZ Tryz.hZ rfl rfl rfl rfl ?_; intro)
  refine wl_nil ?_
  refine zE ?_
  refine zA ?_
  refine zB ?_
  refine wl_pure Tryz.hT rfl rfl rfl ?_
  refine wl_loadBx 0 Tryz.hT rfl rfl rfl rfl rfl rfl rfl rfl ?_
  refine wl_pure Tryz.hT rfl rfl rfl ?_
  refine wl_load rfl rfl rfl rfl (fun W hp => RowAt.load 0 Tryz.hT rfl ((fun W hp => h1.hp hp) W hp) rfl) ?_
  refine wl_pure Tryz.hT rfl rfl rfl ?_
  refine wl_pure Tryz.hT rfl rfl rfl ?_
  refine wl_load rfl rfl rfl rfl (fun W hp => RowAt.load 0 Tryz.hT rfl ((fun W hp => h2.hp hp) W hp) rfl) ?_
  refine wl_pure Tryz.hT rfl rfl rfl ?_
  refine wl_pure Tryz.hT rfl rfl rfl ?_
  refine wl_loadBx 0 Tryz.hT rfl rfl rfl rfl rfl rfl rfl rfl ?_
  refine wl_pure Tryz.hT rfl rfl rfl ?_
  refine wl_load rfl rfl rfl rfl (fun W hp => RowAt.load 1 Tryz.hT rfl ((fun W hp => h1.hp hp) W hp) rfl) ?_
  refine wl_pure Tryz.hT rfl rfl rfl ?_
  refine wl_pure Tryz.hT rfl rfl rfl ?_
  refine wl_load rfl rfl rfl rfl (fun W hp => RowAt.load 1 Tryz.hT rfl ((fun W hp => h2.hp hp) W hp) rfl) ?_
  refine wl_pure Tryz.hT rfl rfl rfl ?_
  refine wl_buildZ Tryz.hZ Tryz.hT rfl rfl rfl rfl rfl rfl rfl rfl ?_
  refine wl_storeBx 1 Tryz.hT rfl rfl rfl rfl rfl rfl rfl rfl rfl rfl rfl ?_
  refine wl_nil ?_
  refine zE ?_
  refine zO ?_
  exact ne_ret1 Tryz.hT rfl (.cell 1 rfl rfl rfl rfl rfl) () rfl trivial fun W _ => NewBx.nil _ _
end Go.Proofs.YtnpfkmbcejgnjaaGreatDoor
