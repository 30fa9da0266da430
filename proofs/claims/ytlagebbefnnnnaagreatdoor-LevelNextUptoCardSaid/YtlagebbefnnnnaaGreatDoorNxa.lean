/-
  Lemmas that the theorem levelNext_upto_card needs (part 1 of 1).
-/
import Derived.Test.YtlagebbefnnnnaaGreatDoorLbg
import Derived.Test.YtlagebbefnnnnaaGreatDoorRows
import Derived.Test.YtlagebbefnnnnaaGreatDoorCards
import Derived.Test.YtlagebbefnnnnaaGreatDoorTie
import Derived.Deep.Slices
import Derived.ChangeArms
import Derived.ChangeShapes
import Derived.WideShapes
import Derived.Carry
import Derived.WalkKit
import Derived.ProofKit
import Derived.OpenShut
import Derived.Deep.DeepHandedRow
import Derived.Lib.LaidTab
import Derived.Stop.LaidErr
import Derived.Lay
import Derived.SevenTiedAt
import Derived.Shelf.Vars
namespace Go.Proofs.YtlagebbefnnnnaaGreatDoor
open Go Go.RowKit Go.Am Go.Lib
set_option maxRecDepth 10000
-- BOXES 4
-- CODE2
theorem nsm1 : numS (q2 (-1) 1) = [45, 49] := by
 rw [numS, parS, if_pos rfl]
 exact (itoa_neg (m := 1) (by decide)).trans (by rw [dd1 1 (by decide)]; rfl)
def zAt (rs : List (List Sd)) : Nat → Rat
 | 0 => q2 (-1) 1
 | i + 1 => lvAt rs i
theorem base_nn {rs : List (List Sd)} (h : chk rs = 0) : (0 : Rat) ≤ base rs := by
 obtain ⟨hrg, _⟩ := chk_parts h
 obtain ⟨s, hs, e⟩ := List.mem_map.1 (base_mem (starts_ne h))
 obtain ⟨l, hl, hsm⟩ := List.mem_flatten.1 (List.mem_filter.1 hs).1
 obtain ⟨_, _, hp, _⟩ := rgd_parts (hrg l hl s hsm)
 rw [← e]
 have := Rat.intCast_le_intCast.2 hp.1
 exact this
theorem zAt_sz {rs : List (List Sd)} (h : chk rs = 0) {i : Nat} (hi : i ≤ (lvls rs).length) : szQ (zAt rs i) 20 := by
 obtain ⟨hrg, _⟩ := chk_parts h
 cases i with
 | zero => exact ⟨by show (1 : Nat) < _; decide, by show (1 : Nat) < _; decide⟩
 | succ i =>
  show szQ (lvAt rs i) 20
  rw [← lv_get (show i < (lvls rs).length by omega)]
  exact (lvls_sz hrg (List.getElem_mem _)).mono (by decide)
theorem zAt_lo {rs : List (List Sd)} {i : Nat} (hi : i ≤ (lvls rs).length) (j : Nat) (hj : j < (lvls rs).length) (hji : j < i) : (lvls rs)[j] ≤ zAt rs i := by
 cases i with
 | zero => exact absurd hji (Nat.not_lt_zero _)
 | succ i =>
  show _ ≤ lvAt rs i
  rw [← lv_get (show i < (lvls rs).length by omega)]
  by_cases e : j = i
  ·subst e; exact Rat.le_refl
  ·exact Rat.le_of_lt (List.pairwise_iff_getElem.1 (lvls_strict rs) j i hj (by omega) (by omega))
theorem zAt_hi {rs : List (List Sd)} (h : chk rs = 0) {i : Nat} (hi : i < (lvls rs).length) : zAt rs i < (lvls rs)[i] := by
 cases i with
 | zero =>
  have h1 := base_nn h
  have h2 := base_le (rs := rs) (List.getElem_mem hi)
  have h3 : (q2 (-1) 1 : Rat) < 0 := by decide +kernel
  exact Rat.not_le.1 fun hc => Rat.not_lt.2 (Rat.le_trans h1 (Rat.le_trans h2 hc)) h3
 | succ i =>
  show lvAt rs i < _
  rw [← lv_get (show i < (lvls rs).length by omega)]
  exact List.pairwise_iff_getElem.1 (lvls_strict rs) i (i + 1) (by omega) hi (by omega)
set_option maxHeartbeats 16000000 in
theorem nextL_gives (W : World) (p : Option Addr) (cap : Nat) (rs : List (List Sd)) (hn : rs.length < 1099511627776) (hT : tot rs < 1099511627776) (hR : RingsP W p rs) (hd : DirP W) (hv : MaxP W) (ht : TabP W) :
  CallsR Tryz.prog 8 #[planV p rs.length cap] W (fun _ : Unit => .bool true) (fun _ => True) (fun _ => []) := by
 refine calls_enter (args := [planV p rs.length cap]) Tryz.func8 rfl rfl rfl ?_
 refine zA (zB ?_)
 (refine wl_box rfl rfl rfl rfl ?_; intro)
 refine wP rfl (wl_nil ?_)
 rename_i b1
 refine zE (zA (zA (zB (wB 0 rfl rfl rfl ?_))))
 refine wl_call1 rfl rfl rfl rfl rfl rfl (by kernel_rfl) (fun W1 hp => fineV_gives W1 p cap rs hn hT (hR.hp hp) (hd.hp hp) (hv.hp hp) (ht.hp hp)) ?_
 by_cases hf : fineV rs = true
 rotate_left
 ·refine wl_upd 15 (.bool false) rfl (congrArg Value.bool (by simpa using hf)) ?_
  refine wP rfl (wl_nil (zE (zR rfl (zA (zB ?_)))))
  refine wl_call1 rfl rfl rfl rfl rfl rfl (by kernel_rfl) (fun W1 hp => awakeV_gives W1 (hd.hp hp) (hv.hp hp) (ht.hp hp)) ?_
  refine wP rfl (wl_nil (zE (zO (zP ?_))))
  exact ne_ret1 tH rfl (.tmp rfl) () rfl trivial fun W _ => NewBx.nil _ _
 obtain ⟨hP, h12⟩ := fine_w hf hn hR hd hv ht
 have hpos := lvls_pos hP.c
 have hlen := lvls_len (chk_ne hP.c).2.1
 refine wl_upd 15 (.bool true) rfl (congrArg Value.bool hf) ?_
 refine wP rfl (wl_nil (zE (zS rfl (zI (zE (zA (zB (wB 0 rfl rfl rfl ?_))))))))
 refine wl_call (X := Vec) rfl rfl rfl rfl rfl rfl (by kernel_rfl) (fun W1 hp => lAll_gives W1 p cap rs (hP.hp hp)) ?_
 intro V hV
 obtain ⟨pL, cL, hLv, hLr⟩ := Vec.num hV
 obtain ⟨gL, hpe, hLq⟩ := hLr hpos
 subst hpe
 rw [hLv]
 iterate 5 refine wP rfl ?_
 refine wl_nil (zE (zA (zB (wP rfl (wl_nil (zE (zA (zA (zB (wP rfl (wP rfl (wP rfl (wl_nil ?_)))))))))))))
 refine zE (zH ?_)
 refine wc_loop (X := Nat) (fun i => [(1, selfP b1), (3, .slice (some ⟨gL, 0, none⟩) (lvls rs).length cL), (4, .int .i64 0), (5, str (numS (zAt rs i))), (23, .slice (some ⟨gL, 0, none⟩) (lvls rs).length cL), (24, .int .i64 ((lvls rs).length : Nat)), (25, .int .i64 (i : Nat))])
  (fun _ => [bxE b1 24 (slv p rs.length cap), V.bx 37 (nS (lvls rs))]) (fun i => i ≤ (lvls rs).length) (fun i => (lvls rs).length - i) 0 (Nat.zero_le _) ⟨rfl, rfl, rfl, by show some (str [45, 49]) = some (str (numS (q2 (-1) 1))); rw [nsm1], rfl, rfl, rfl, trivial⟩ [] rfl ?_
 intro i hi
 have hi : i ≤ (lvls rs).length := hi
 have hN : ∀ {W1 : World} {bxs : List Bx}, Hp W bxs W1 → CallsR Tryz.prog 39 #[planV p rs.length cap, str (numS (zAt rs i))] W1 (fun _ : Unit => if i < (lvls rs).length then .tuple #[str (numS (lvAt rs i)), .bool true, .int .i64 0] else .tuple #[str [], .bool false, .int .i64 0]) (fun _ => True) (fun _ => []) := fun hp =>
  lNext_gives _ p cap rs (hP.hp hp) (zAt rs i) (zAt_sz hP.c hi) i hi (fun j hj hji => zAt_lo hi j hj hji) (fun hj => zAt_hi hP.c hj)
 by_cases hlt : i < (lvls rs).length
 ·simp only [if_pos hlt] at hN
  refine zA (zB (wP rfl ?_))
  refine wl_upd 26 (.bool true) rfl (congrArg Value.bool (decide_eq_true (by omega))) ?_
  refine wl_nil (zE (zA (zR rfl (zI (zE (zA (zH (zA (zB ?_)))))))))
  refine wI rfl rfl (by omega) (by omega) ?_
  refine wl_load rfl rfl rfl rfl (fun W hp => RowAt.load 0 tH rfl ((fun W1 hp => lv_row hLq hp 1 rfl i hlt) W hp) rfl) ?_
  refine wP rfl (wl_nil (zE (zA (zB (wB 0 rfl rfl rfl (wP rfl ?_))))))
  refine wl_call1 rfl rfl rfl rfl rfl rfl (by kernel_rfl) (fun W1 hp => hN hp) ?_
  iterate 7 refine wP rfl ?_
  refine wl_nil (zE (zA (zA (zB ?_))))
  iterate 10 refine wP rfl ?_
  refine wl_upd 45 (.bool false) rfl (congrArg Value.bool (by show (!_) = false; rw [strEqB, decide_eq_true rfl]; rfl)) ?_
  refine wP rfl (wl_nil (zE (zS rfl (zI (zE (zB (wP rfl (wP rfl (wl_nil (zN (zE (zB (wP rfl ?_)))))))))))))
  refine wl_upd 48 (.int .i64 ((i + 1 : Nat) : Int)) rfl (congrArg (Value.int .i64) (w64_succ (by omega))) ?_
  refine wP rfl (wl_nil ?_)
  exact ne_loop (i + 1) hlt (by show (lvls rs).length - (i + 1) < (lvls rs).length - i; omega) ⟨rfl, rfl, rfl, rfl, rfl, rfl, rfl, trivial⟩ [] rfl
 ·simp only [if_neg hlt] at hN
  refine zA (zB (wP rfl ?_))
  refine wl_upd 26 (.bool false) rfl (congrArg Value.bool (decide_eq_false (by omega))) ?_
  refine wl_nil (zE (zA (zS rfl (zJ (zK (zK (zL (zE (zA (zB (wB 0 rfl rfl rfl (wP rfl ?_))))))))))))
  refine wl_call1 rfl rfl rfl rfl rfl rfl (by kernel_rfl) (fun W1 hp => hN hp) ?_
  iterate 7 refine wP rfl ?_
  refine wl_nil (zE (zA (zB ?_)))
  iterate 6 refine wP rfl ?_
  refine wl_upd 61 (.bool true) rfl (congrArg Value.bool (decide_eq_true (by omega))) ?_
  iterate 10 refine wP rfl ?_
  refine wl_call1 rfl rfl rfl rfl rfl rfl (by kernel_rfl) (fun W1 hp => awakeV_gives W1 (hd.hp hp) (hv.hp hp) (ht.hp hp)) ?_
  refine wP rfl (wP rfl (wl_nil (zE (zO ?_))))
  exact ne_ret1 tH rfl (.tmp rfl) () rfl trivial fun W _ => NewBx.nil _ _
end Go.Proofs.YtlagebbefnnnnaaGreatDoor
namespace Go.Proofs.YtlagebbefnnnnaaGreatDoor
open Go Go.RowKit Go.Am Go.ChangeShapes Go.WideShapes Go.Deep Go.ChangeAt
set_option maxRecDepth 100000
section
variable {H : Type} {enc : TypeId × Value → H} {w : World} {base : Nat} {spare : Nat → Bool} {held : Bool} {v : Value} {d : DataW H} {ps : List MemPlace}
end
theorem own : ownKnob Tryz.prog.godebug = none := by kernel_rfl
theorem laidOut : laidOutB Tryz.prog = true := by kernel_rfl
noncomputable def witW (os : Os) : World := World.laidAll Tryz.prog os laidL
theorem wit_laid (os : Os) (args : Array Value) : laidMetH Tryz.prog laidL ((witW os).forCall (fun _ _ => 0) ⟨#[], args, []⟩).memory := by
 rw [MakeChecks.laidMetH_plain _ _ _ laid_plain]
 exact laidMet_laidAll _ (by kernel_rfl) (by kernel_rfl)
theorem wit_shaped (os : Os) (args : Array Value) : ((witW os).forCall (fun _ _ => 0) ⟨#[], args, []⟩).Shaped Tryz.prog :=
 World.shaped_of_ZipB (by kernel_rfl) (by kernel_rfl)
theorem wit_row {H : Type} {enc : TypeId × Value → H} (os : Os) {f : FuncId} {fn : Func} {s : OpenSpec} {conds : List PathCond} (args : Array Value)
  (hok : Input.okWideB Tryz.prog ((witW os).forCall (fun _ _ => 0) ⟨#[], args, []⟩) f ⟨#[], args, []⟩ = true)
  (hrow : s.preRow enc Tryz.prog fn conds false laidL ((witW os).forCall (fun _ _ => 0) ⟨#[], args, []⟩).memory args) :
  ∃ (w : World) (tape : Tape) (i : Input), w.os = os ∧ (w.forCall tape i).Shaped Tryz.prog ∧ i.vars = [] ∧ Input.okWide Tryz.prog (w.forCall tape i) .any w.heap.size f i ∧
   s.preRow enc Tryz.prog fn conds false laidL (w.forCall tape i).memory i.args ∧ ({} : Assume).holds Tryz.prog (lone (Frame.enter Tryz.prog f i.args .normal) [] (w.forCall tape i)) :=
 ⟨witW os, fun _ _ => 0, ⟨#[], args, []⟩, World.laidAll_os _ _ _, wit_shaped os args, (Input.okWide_of_okWideB (base := 0) hok).1, (Input.okWide_of_okWideB hok).2, hrow, by
  simp only [Assume.holds]
  exact ⟨by simp, by simp, by simp, by simp, by simp, by simp⟩⟩
end Go.Proofs.YtlagebbefnnnnaaGreatDoor
