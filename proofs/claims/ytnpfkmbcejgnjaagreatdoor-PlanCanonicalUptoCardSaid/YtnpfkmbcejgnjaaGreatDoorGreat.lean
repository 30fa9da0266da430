/-
  Is a plan too great to be looked at; is it valid; its sides.
-/
import Derived.Test.YtnpfkmbcejgnjaaGreatDoorCheck
namespace Go.Proofs.YtnpfkmbcejgnjaaGreatDoor
open Go Go.RowKit Go.Am
set_option maxRecDepth 10000
-- BOXES 3
theorem RingsP.hp {W0 W : World} {bxs : List Bx} {p : Option Addr} {rs : List (List Sd)} (h : RingsP W0 p rs) (hp : Hp W0 bxs W) : RingsP W p rs := h.below (Nat.le_refl _) hp.below
/-- Is a plan too great to be looked at (ref.Great). -/
def grt (rs : List (List Sd)) (m : Int) : Bool := (decide ((tot rs : Int) > m) && decide ((tot rs : Int) ≤ 24)) || decide ((tot rs : Int) > 40) || decide ((rs.length : Int) > 40)
set_option maxHeartbeats 4000000 in
theorem great_gives (W : World) (p : Option Addr) (cap : Nat) (rs : List (List Sd)) (m : Int) (hn : rs.length < 4611686018427387904) (hT : tot rs < 4611686018427387904) (hR : RingsP W p rs) :
    CallsR Tryz.prog 16 #[planV p rs.length cap, .int .i64 m] W (fun _ : Unit => .bool (grt rs m)) (fun _ => True) (fun _ => []) := by
  refine calls_enter (args := [planV p rs.length cap, .int .i64 m]) Tryz.func16 rfl rfl rfl ?_
  refine zA ?_
  refine zB ?_
  (refine wl_box rfl rfl rfl rfl ?_; intro)
  rename_i b1
  refine wl_pure Tryz.hT rfl rfl rfl ?_
  refine wl_nil ?_
  refine zE ?_
  refine zA ?_
  refine zB ?_
  refine wl_pure Tryz.hT rfl rfl rfl ?_
  refine wl_nil ?_
  refine zE ?_
  refine zA ?_
  refine zA ?_
  refine zB ?_
  refine wl_pure Tryz.hT rfl rfl rfl ?_
  refine wl_nil ?_
  refine zE ?_
  refine zH ?_
  refine wc_loop (X := Nat) (fun k => [(1, .int .i64 m), (2, .pointer (some ⟨b1, 0, none⟩)), (5, .int .i64 (tot (rs.take k) : Nat)), (6, .int .i64 (k : Nat))]) (fun _ => [⟨b1, 24, [slv p rs.length cap], true, none⟩])
    (fun k => k ≤ rs.length) (fun k => rs.length - k) 0 (Nat.zero_le _) ⟨rfl, rfl, rfl, rfl, trivial⟩ [] rfl ?_
  intro k hk
  refine zA ?_
  refine zA ?_
  refine zB ?_
  refine wl_pure Tryz.hT rfl rfl rfl ?_
  refine wl_pure Tryz.hT rfl rfl rfl ?_
  refine wl_loadBx 0 Tryz.hT rfl rfl rfl rfl rfl rfl rfl rfl ?_
  refine wl_pure Tryz.hT rfl rfl rfl ?_
  refine wl_pure Tryz.hT rfl rfl rfl ?_
  refine wl_nil ?_
  refine zE ?_
  refine wc_cond rfl (fun h => ?_) (fun h => ?_)
  · have hk : k < rs.length := by simp at h; omega
    clear h
    obtain ⟨b, off, rfl, hrow⟩ := hR.row hk
    obtain ⟨q, cap2, hq1, hq2⟩ := hrow k hk
    refine zI ?_
    refine zE ?_
    refine zA ?_
    refine zH ?_
    refine zB ?_
    refine wl_pure Tryz.hT rfl rfl rfl ?_
    refine wl_pure Tryz.hT rfl rfl rfl ?_
    refine wl_loadBx 0 Tryz.hT rfl rfl rfl rfl rfl rfl rfl rfl ?_
    refine wl_pure Tryz.hT rfl rfl rfl ?_
    refine wl_indexAddr Tryz.hT rfl rfl rfl rfl rfl rfl rfl (by omega) (by omega) ?_
    refine wl_load rfl rfl rfl rfl (fun W hp => RowAt.load 0 Tryz.hT rfl ((fun W hp => hq1.hp hp) W hp) rfl) ?_
    refine wl_pure Tryz.hT rfl rfl rfl ?_
    refine wl_pure Tryz.hT rfl rfl rfl ?_
    refine wl_pure Tryz.hT rfl rfl rfl ?_
    refine wl_nil ?_
    have hs : w64 ((tot (rs.take k) : Nat) + ((rg rs k).length : Nat)) = (tot (rs.take (k + 1)) : Nat) := by
      have h1 := tot_take_succ hk
      have h2 := tot_take_le rs (k + 1)
      rw [w64_id (by omega) (by omega)]; omega
    refine zN ?_
    refine zE ?_
    refine zB ?_
    refine wl_upd 5 _ rfl (congrArg (Value.int .i64) hs) ?_
    refine wl_pure Tryz.hT rfl rfl rfl ?_
    refine wl_pure Tryz.hT rfl rfl rfl ?_
    refine wl_pure Tryz.hT rfl rfl rfl ?_
    refine wl_nil ?_
    exact ne_loop (k + 1) hk (by omega) ⟨rfl, rfl, rfl, congrArg (fun z => some (Value.int .i64 z)) (wrap_id (x := (k : Int) + 1) (by omega) (by omega)), trivial⟩ [] rfl
  have e : k = rs.length := by simp at h; omega
  subst e
  clear h
  rw [List.take_length]
  refine zJ ?_
  refine zK ?_
  refine zK ?_
  refine zL ?_
  refine zE ?_
  refine zA ?_
  refine zB ?_
  refine wl_pure Tryz.hT rfl rfl rfl ?_
  refine wl_pure Tryz.hT rfl rfl rfl ?_
  refine wl_pure Tryz.hT rfl rfl rfl ?_
  refine wl_pure Tryz.hT rfl rfl rfl ?_
  refine wl_part 25 rfl (fun h25 => ?_) (fun h25 => ?_)
  · refine wl_pure Tryz.hT rfl rfl rfl ?_
    refine wl_pure Tryz.hT rfl rfl rfl ?_
    refine wl_pure Tryz.hT rfl rfl rfl ?_
    refine wl_pure Tryz.hT rfl rfl rfl ?_
    have h25' : decide ((tot rs : Int) > m) = true := h25
    refine wl_part 29 rfl (fun h29 => ?_) (fun h29 => ?_)
    · have e : grt rs m = true := by have h' : decide ((tot rs : Int) ≤ 24) = true := h29; unfold grt; rw [h25', h']; rfl
      refine wl_skip rfl rfl ?_
      refine wl_skip rfl rfl ?_
      refine wl_pure Tryz.hT rfl rfl rfl ?_
      refine wl_pure Tryz.hT rfl rfl rfl ?_
      refine wl_skip rfl rfl ?_
      refine wl_skip rfl rfl ?_
      refine wl_skip rfl rfl ?_
      refine wl_skip rfl rfl ?_
      refine wl_pure Tryz.hT rfl rfl rfl ?_
      refine wl_pure Tryz.hT rfl rfl rfl ?_
      refine wl_nil ?_
      refine zE ?_
      refine zO ?_
      exact ne_ret1 Tryz.hT rfl (.tmp rfl) () (by rw [e]) trivial fun W _ => NewBx.nil _ _
    · refine wl_pure Tryz.hT rfl rfl rfl ?_
      refine wl_pure Tryz.hT rfl rfl rfl ?_
      refine wl_pure Tryz.hT rfl rfl rfl ?_
      refine wl_pure Tryz.hT rfl rfl rfl ?_
      have h' : decide ((tot rs : Int) ≤ 24) = false := h29
      refine wl_part 33 rfl (fun h33 => ?_) (fun h33 => ?_)
      · have e : grt rs m = true := by have h2 : decide ((tot rs : Int) > 40) = true := h33; unfold grt; rw [h2, Bool.or_true]; rfl
        refine wl_skip rfl rfl ?_
        refine wl_skip rfl rfl ?_
        refine wl_skip rfl rfl ?_
        refine wl_skip rfl rfl ?_
        refine wl_pure Tryz.hT rfl rfl rfl ?_
        refine wl_pure Tryz.hT rfl rfl rfl ?_
        refine wl_nil ?_
        refine zE ?_
        refine zO ?_
        exact ne_ret1 Tryz.hT rfl (.tmp rfl) () (by rw [e]) trivial fun W _ => NewBx.nil _ _
      · have e : grt rs m = decide ((rs.length : Int) > 40) := by have h2 : decide ((tot rs : Int) > 40) = false := h33; unfold grt; rw [h', h2, Bool.and_false]; rfl
        refine wl_pure Tryz.hT rfl rfl rfl ?_
        refine wl_loadBx 0 Tryz.hT rfl rfl rfl rfl rfl rfl rfl rfl ?_
        refine wl_pure Tryz.hT rfl rfl rfl ?_
        refine wl_pure Tryz.hT rfl rfl rfl ?_
        refine wl_pure Tryz.hT rfl rfl rfl ?_
        refine wl_pure Tryz.hT rfl rfl rfl ?_
        refine wl_nil ?_
        refine zE ?_
        refine zO ?_
        exact ne_ret1 Tryz.hT rfl (.tmp rfl) () (by rw [e]) trivial fun W _ => NewBx.nil _ _
  · have h25' : decide ((tot rs : Int) > m) = false := h25
    refine wl_skip rfl rfl ?_
    refine wl_skip rfl rfl ?_
    refine wl_pure Tryz.hT rfl rfl rfl ?_
    refine wl_pure Tryz.hT rfl rfl rfl ?_
    refine wl_pure Tryz.hT rfl rfl rfl ?_
    refine wl_pure Tryz.hT rfl rfl rfl ?_
    refine wl_pure Tryz.hT rfl rfl rfl ?_
    refine wl_pure Tryz.hT rfl rfl rfl ?_
    refine wl_part 33 rfl (fun h33 => ?_) (fun h33 => ?_)
    · have e : grt rs m = true := by have h2 : decide ((tot rs : Int) > 40) = true := h33; unfold grt; rw [h2, Bool.or_true]; rfl
      refine wl_skip rfl rfl ?_
      refine wl_skip rfl rfl ?_
      refine wl_skip rfl rfl ?_
      refine wl_skip rfl rfl ?_
      refine wl_pure Tryz.hT rfl rfl rfl ?_
      refine wl_pure Tryz.hT rfl rfl rfl ?_
      refine wl_nil ?_
      refine zE ?_
      refine zO ?_
      exact ne_ret1 Tryz.hT rfl (.tmp rfl) () (by rw [e]) trivial fun W _ => NewBx.nil _ _
    · have e : grt rs m = decide ((rs.length : Int) > 40) := by have h2 : decide ((tot rs : Int) > 40) = false := h33; unfold grt; rw [h25', h2]; rfl
      refine wl_pure Tryz.hT rfl rfl rfl ?_
      refine wl_loadBx 0 Tryz.hT rfl rfl rfl rfl rfl rfl rfl rfl ?_
      refine wl_pure Tryz.hT rfl rfl rfl ?_
      refine wl_pure Tryz.hT rfl rfl rfl ?_
      refine wl_pure Tryz.hT rfl rfl rfl ?_
      refine wl_pure Tryz.hT rfl rfl rfl ?_
      refine wl_nil ?_
      refine zE ?_
      refine zO ?_
      exact ne_ret1 Tryz.hT rfl (.tmp rfl) () (by rw [e]) trivial fun W _ => NewBx.nil _ _
def fineB (rs : List (List Sd)) : Bool := !grt rs 12 && (chk rs == 0)
theorem grt_small {rs : List (List Sd)} {m : Int} (h : grt rs m = false) : tot rs ≤ 40 ∧ rs.length ≤ 40 := by
  unfold grt at h
  simp only [Bool.or_eq_false_iff, decide_eq_false_iff_not] at h
  omega
theorem fine_gives (W : World) (p : Option Addr) (cap : Nat) (rs : List (List Sd)) (hn : rs.length < 4611686018427387904) (hT : tot rs < 4611686018427387904) (hR : RingsP W p rs) :
    CallsR Tryz.prog 12 #[planV p rs.length cap] W (fun _ : Unit => .bool (fineB rs)) (fun _ => True) (fun _ => []) := by
  refine calls_enter (args := [planV p rs.length cap]) Tryz.func12 rfl rfl rfl ?_
  refine zA ?_
  refine zB ?_
  (refine wl_box rfl rfl rfl rfl ?_; intro)
  refine wl_pure Tryz.hT rfl rfl rfl ?_
  refine wl_nil ?_
  refine zE ?_
  refine zA ?_
  refine zB ?_
  refine wl_loadBx 0 Tryz.hT rfl rfl rfl rfl rfl rfl rfl rfl ?_
  refine wl_call1 rfl rfl rfl rfl rfl rfl (by kernel_rfl) (fun W hp => great_gives W p cap rs 12 hn hT (hR.hp hp)) ?_
  refine wl_pure Tryz.hT rfl rfl rfl ?_
  refine wl_pure Tryz.hT rfl rfl rfl ?_
  refine wl_part 6 rfl (fun h6 => ?_) (fun h6 => ?_)
  · have h6' : grt rs 12 = false := by simpa using h6
    have hs := grt_small h6'
    refine wl_loadBx 0 Tryz.hT rfl rfl rfl rfl rfl rfl rfl rfl ?_
    refine wl_call1 rfl rfl rfl rfl rfl rfl (by kernel_rfl) (fun W hp => check_gives W p cap rs hn (by omega) (hR.hp hp)) ?_
    refine wl_pure Tryz.hT rfl rfl rfl ?_
    refine wl_pure Tryz.hT rfl rfl rfl ?_
    refine wl_pure Tryz.hT rfl rfl rfl ?_
    refine wl_nil ?_
    refine zE ?_
    refine zO ?_
    have e : fineB rs = (chk rs == 0) := by unfold fineB; rw [h6']; rfl
    exact ne_ret1 Tryz.hT rfl (.tmp rfl) () (by rw [e]) trivial fun W _ => NewBx.nil _ _
  · have h6' : grt rs 12 = true := by simpa using h6
    refine wl_skip rfl rfl ?_
    refine wl_skip rfl rfl ?_
    refine wl_skip rfl rfl ?_
    refine wl_pure Tryz.hT rfl rfl rfl ?_
    refine wl_pure Tryz.hT rfl rfl rfl ?_
    refine wl_nil ?_
    refine zE ?_
    refine zO ?_
    have e : fineB rs = false := by unfold fineB; rw [h6']; rfl
    exact ne_ret1 Tryz.hT rfl (.tmp rfl) () (by rw [e]) trivial fun W _ => NewBx.nil _ _
/-- What is returned: a value, a vector, an error. -/
theorem chk_ne {rs : List (List Sd)} (h : chk rs = 0) : (∀ l ∈ rs, l ≠ []) ∧ tot rs ≤ 24 ∧ tot rs ≠ 0 := by
  unfold chk at h
  split at h
  · cases h
  · rename_i h1
    split at h
    · cases h
    · rename_i h2
      split at h
      · cases h
      · rename_i h3
        refine ⟨fun l hl e => h1 (List.any_eq_true.2 ⟨l, hl, by rw [e]; rfl⟩), by omega, h2⟩
theorem sides_ok (W : World) (p : Option Addr) (cap : Nat) (rs : List (List Sd)) (hn : rs.length < 4611686018427387904) (hR : RingsP W p rs) (hc : chk rs = 0) :
    CallsR Tryz.prog 17 #[planV p rs.length cap] W (fun V : Vec => .tuple #[V.val rs.flatten.length, .int .i64 0]) (fun V => V.OK 7 rs.flatten.length (cellsOf rs.flatten)) (fun V => [V.bx 42 (cellsOf rs.flatten)]) := by
  obtain ⟨hne, hT, _⟩ := chk_ne hc
  refine calls_enter (args := [planV p rs.length cap]) Tryz.func17 rfl rfl rfl ?_
  refine zA ?_
  refine zB ?_
  (refine wl_box rfl rfl rfl rfl ?_; intro)
  refine wl_pure Tryz.hT rfl rfl rfl ?_
  refine wl_pure Tryz.hT rfl rfl rfl ?_
  refine wl_nil ?_
  refine zE ?_
  refine zA ?_
  refine zA ?_
  refine zB ?_
  refine wl_loadBx 0 Tryz.hT rfl rfl rfl rfl rfl rfl rfl rfl ?_
  refine wl_call1 rfl rfl rfl rfl rfl rfl (by kernel_rfl) (fun W hp => (check_gives W p cap rs hn (by omega) (hR.hp hp)).cast (by rw [hc])) ?_
  refine wl_pure Tryz.hT rfl rfl rfl ?_
  refine wl_nil ?_
  refine zE ?_
  refine zS rfl ?_
  refine zI ?_
  refine zE ?_
  refine zA ?_
  refine zB ?_
  refine wl_pure Tryz.hT rfl rfl rfl ?_
  refine wl_loadBx 0 Tryz.hT rfl rfl rfl rfl rfl rfl rfl rfl ?_
  refine wl_call (X := Vec) rfl rfl rfl rfl rfl rfl (by kernel_rfl) (fun W hp => concat_gives W p cap rs hn (by omega) (hR.hp hp) hne) ?_
  intro V hV
  refine wl_pure Tryz.hT rfl rfl rfl ?_
  refine wl_pure Tryz.hT rfl rfl rfl ?_
  refine wl_nil ?_
  refine zE ?_
  refine zO ?_
  exact ne_ret2 Tryz.hT rfl (.tmp rfl) (.tmp rfl) V rfl hV fun W hp => NewBx.of_hp1 hp 1 rfl
theorem sides_err (W : World) (p : Option Addr) (cap : Nat) (rs : List (List Sd)) (hn : rs.length < 4611686018427387904) (hT : tot rs < 1099511627776) (hR : RingsP W p rs) (hc : chk rs ≠ 0) :
    CallsR Tryz.prog 17 #[planV p rs.length cap] W (fun _ : Unit => .tuple #[.slice none 0 0, .int .i64 1]) (fun _ => True) (fun _ => []) := by
  refine calls_enter (args := [planV p rs.length cap]) Tryz.func17 rfl rfl rfl ?_
  refine zA ?_
  refine zB ?_
  (refine wl_box rfl rfl rfl rfl ?_; intro)
  refine wl_pure Tryz.hT rfl rfl rfl ?_
  refine wl_pure Tryz.hT rfl rfl rfl ?_
  refine wl_nil ?_
  refine zE ?_
  refine zA ?_
  refine zA ?_
  refine zB ?_
  refine wl_loadBx 0 Tryz.hT rfl rfl rfl rfl rfl rfl rfl rfl ?_
  refine wl_call1 rfl rfl rfl rfl rfl rfl (by kernel_rfl) (fun W hp => check_gives W p cap rs hn hT (hR.hp hp)) ?_
  refine wl_pure Tryz.hT rfl rfl rfl ?_
  refine wl_nil ?_
  refine zE ?_
  refine wc_cond rfl (fun h => ?_) (fun h => ?_)
  · refine zA ?_
    refine zB ?_
    refine wl_pure Tryz.hT rfl rfl rfl ?_
    refine wl_pure Tryz.hT rfl rfl rfl ?_
    refine wl_nil ?_
    refine zE ?_
    refine zO ?_
    refine zP ?_
    exact ne_ret2 Tryz.hT rfl (.tmp rfl) (.tmp rfl) () rfl trivial fun W _ => NewBx.nil _ _
  · exact absurd (by have h' : (chk rs != 0) = false := h; simpa using h') hc
end Go.Proofs.YtnpfkmbcejgnjaaGreatDoor
