/-
  Lemmas that the theorem levelReasons_upto_card needs (part 7 of 7).
-/
import Derived.Test.YtlagebbefnnnnaaGreatDoorRyf
import Derived.Test.YtlagebbefnnnnaaGreatDoorRows
import Derived.Deep.Slices
import Derived.ChangeArms
import Derived.ChangeShapes
import Derived.WideShapes
import Derived.Carry
import Derived.Test.YtlagebbefnnnnaaGreatDoorCards
import Derived.Test.YtlagebbefnnnnaaGreatDoorTie
import Derived.ProofKit
import Derived.OpenShut
import Derived.Deep.DeepHandedRow
import Derived.Lib.LaidTab
import Derived.Stop.LaidErr
import Derived.Lay
import Derived.SevenTiedAt
import Derived.Shelf.Vars
namespace Go.Proofs.YtlagebbefnnnnaaGreatDoor
open Go Go.RowKit Go.Am Go.Lib
set_option maxRecDepth 10000
-- BOXES 8
-- CODE2
theorem pairs_nz {V : Vec} {mk : PrMk} {L : List (Nat × Nat)} (hL : mk.map (·.2) = L) (hV : V.OK 1 mk.length (prRow mk)) : ∃ p cap, V.val mk.length = .slice p L.length cap ∧ (0 < L.length → ∃ g, p = some ⟨g, 0, none⟩ ∧ ∀ j (hj : j < L.length), ∃ b,
  ∀ {W0 W : World} {bxs : List Bx}, Hp W0 bxs W → ∀ k i, nth bxs k = some (V.bx 58 (prRow mk)) → nth bxs i = some (prB mk) → RowAt W g (0 + j * 1) [.slice (some ⟨b, 0, none⟩) 2 2] ∧ RowAt W b 0 (prC L[j])) := by
 have hl : L.length = mk.length := by rw [← hL, List.length_map]
 obtain ⟨p, cap, junk⟩ := V
 cases p with
 | none =>
  have h0 := hV.nil rfl
  exact ⟨none, 0, by rw [hl, h0]; rfl, fun h => by omega⟩
 | some g =>
  refine ⟨some ⟨g, 0, none⟩, cap, by rw [hl]; rfl, fun _ => ⟨g, rfl, fun j hj => ?_⟩⟩
  have hjm : j < mk.length := by omega
  have e2 : L[j] = mk[j].2 := by simp only [← hL, List.getElem_map]
  refine ⟨mk[j].1, fun {W0 W bxs} hp k i hk hi => ⟨row_pt hp k (A := prRow (mk.take j)) (C := prRow (mk.drop (j + 1)) ++ junk) hk ?_ (by rw [prRow_len, List.length_take]; omega), ?_⟩⟩
  ·conv => lhs; rw [← List.take_append_drop j mk, List.drop_eq_getElem_cons hjm]
   unfold prRow
   rw [List.map_append, List.map_cons, List.append_assoc]; rfl
  ·rw [e2]
   refine rowGrp (ty := 3) hp i hi (l := prL mk) ?_
   exact List.mem_map.2 ⟨mk[j], List.mem_reverse.2 (List.getElem_mem hjm), rfl⟩
theorem pr0 {W : World} {c : Nat} {q : Nat × Nat} (h : RowAt W c 0 (prC q)) : RowAt W c (0 + 0 * 1) [.int .i64 (q.1 : Nat)] := ⟨h.lt, fun m u hu => by
 have hm : m = 0 := by have := (List.getElem?_eq_some_iff.1 hu).1; simpa using this
 subst hm
 exact h.get 0 u hu⟩
theorem pr1 {W : World} {c : Nat} {q : Nat × Nat} (h : RowAt W c 0 (prC q)) : RowAt W c (0 + 1 * 1) [.int .i64 (q.2 : Nat)] := ⟨h.lt, fun m u hu => by
 have hm : m = 0 := by have := (List.getElem?_eq_some_iff.1 hu).1; simpa using this
 subst hm
 exact h.get 1 u hu⟩
theorem reason {rs : List (List Sd)} {z : Rat} (hz : z ∈ lvls rs) : stI rs z (tot rs) ≠ [] ∨ prW (allF rs) z ≠ [] := by
 have eS : rs.flatten.length = tot rs := List.length_flatten
 rcases mem_lvls.1 hz with h | ⟨h, _⟩
 ·left
  obtain ⟨s, hs, e⟩ := List.mem_map.1 h
  obtain ⟨hs1, hs2⟩ := List.mem_filter.1 hs
  obtain ⟨i, hi, e2⟩ := List.getElem_of_mem hs1
  have e3 : sd rs.flatten i = s := by
   have := sd_get hi
   rw [List.getElem?_eq_getElem hi, e2] at this
   exact (Option.some.inj this).symm
  have : i ∈ stI rs z (tot rs) := List.mem_filter.2 ⟨List.mem_range.2 (by omega), by
   unfold stP
   rw [e3, decide_eq_true e, Bool.and_true]
   exact hs2⟩
  intro h0
  rw [h0] at this
  cases this
 ·right
  obtain ⟨q, hq, h1⟩ := List.mem_flatMap.1 h
  have h2 := eqL_iff.1 h1
  have : q ∈ prW (allF rs) z := List.mem_filter.2 ⟨hq, by
   unfold prOk
   rw [decide_eq_true (frEq_iff.1 h2).1, Bool.true_and]
   cases hb : alwB (fr (allF rs) q.1) (fr (allF rs) q.2) with
   | false => rfl
   | true => exact absurd h2 (alw_none (alwB_iff.1 hb) z)⟩
  intro h0
  rw [h0] at this
  cases this
theorem prW_mem {F : List FrP} {z : Rat} {q : Nat × Nat} (h : q ∈ prW F z) : q.1 < q.2 ∧ q.2 < F.length ∧ (fr F q.1).ax = (fr F q.2).ax ∧ (fr F q.1).at z = (fr F q.2).at z := by
 obtain ⟨h1, h2⟩ := List.mem_filter.1 h
 obtain ⟨k1, k2, k3⟩ := mem_prs.1 h1
 unfold prOk at h2
 exact ⟨k1, k2, k3, of_decide_eq_true (Bool.and_eq_true_iff.1 h2).1⟩
set_option maxHeartbeats 32000000 in
theorem reasonsL_gives (W : World) (p : Option Addr) (cap : Nat) (rs : List (List Sd)) (a : Nat) (ha : a < 256) (hn : rs.length < 1099511627776) (hT : tot rs < 1099511627776) (hR : RingsP W p rs) (hd : DirP W) (hv : MaxP W) (ht : TabP W) :
  CallsR Tryz.prog 7 #[planV p rs.length cap, .int .u8 (a : Nat)] W (fun _ : Unit => .bool true) (fun _ => True) (fun _ => []) := by
 refine calls_enter (args := [planV p rs.length cap, .int .u8 (a : Nat)]) Tryz.func7 rfl rfl rfl ?_
 refine zA (zB ?_)
 (refine wl_box rfl rfl rfl rfl ?_; intro)
 refine wP rfl (wl_nil ?_)
 rename_i b2
 refine zE (zA (zA (zB (wB 0 rfl rfl rfl ?_))))
 refine wl_call1 rfl rfl rfl rfl rfl rfl (by kernel_rfl) (fun W1 hp => fineV_gives W1 p cap rs hn hT (hR.hp hp) (hd.hp hp) (hv.hp hp) (ht.hp hp)) ?_
 by_cases hf : fineV rs = true
 rotate_left
 ·refine wl_upd 21 (.bool false) rfl (congrArg Value.bool (by simpa using hf)) ?_
  refine wP rfl (wl_nil (zE (zR rfl (zA (zB ?_)))))
  refine wl_call1 rfl rfl rfl rfl rfl rfl (by kernel_rfl) (fun W1 hp => awakeV_gives W1 (hd.hp hp) (hv.hp hp) (ht.hp hp)) ?_
  refine wP rfl (wl_nil (zE (zO (zP ?_))))
  exact ne_ret1 tH rfl (.tmp rfl) () rfl trivial fun W _ => NewBx.nil _ _
 obtain ⟨hP, h12⟩ := fine_w hf hn hR hd hv ht
 obtain ⟨hrg, _⟩ := chk_parts hP.c
 have hpos := lvls_pos hP.c
 have hlen := lvls_len (chk_ne hP.c).2.1
 have hT0 := (chk_ne hP.c).2.2
 have eF := allF_len rs
 have eS : rs.flatten.length = tot rs := List.length_flatten
 refine wl_upd 21 (.bool true) rfl (congrArg Value.bool hf) ?_
 refine wP rfl (wl_nil (zE (zS rfl (zI (zE (zA (zB (wB 0 rfl rfl rfl ?_))))))))
 refine wl_call (X := Vec) rfl rfl rfl rfl rfl rfl (by kernel_rfl) (fun W1 hp => lAll_gives W1 p cap rs (hP.hp hp)) ?_
 intro V hV
 obtain ⟨pL, cL, hLv, hLr⟩ := Vec.num hV
 obtain ⟨gL, hpe, hLq⟩ := hLr hpos
 subst hpe
 rw [hLv]
 iterate 5 refine wP rfl ?_
 refine wl_nil (zE (zA (zB (wB 0 rfl rfl rfl ?_))))
 refine wl_call (X := Vec) rfl rfl rfl rfl rfl rfl (by kernel_rfl) (fun W1 hp => fAll_gives W1 p cap rs (by omega) (hR.hp hp) hP.c (hd.hp hp) (ht.hp hp)) ?_
 intro F hF
 have hF : F.OK 5 (allF rs).length (frC (allF rs)) := hF
 obtain ⟨gF, cF, hFv, hFr⟩ := Vec.frs hF (by omega)
 have hFr : ∀ {W0 W : World} {bxs : List Bx}, Hp W0 bxs W → ∀ k, nth bxs k = some (F.bx 39 (frC (allF rs))) → ∀ m, m < (allF rs).length → RowAt W gF (0 + m * 5) (frV (fr (allF rs) m)).cells.toList := fun hp k hk m hm => hFr hp k hk m _ (fr_get hm)
 rw [hFv]
 iterate 5 refine wP rfl ?_
 refine wl_nil (zE (zA (zA (zB ?_))))
 iterate 10 refine wP rfl ?_
 refine wl_upd 43 (.bool false) rfl (congrArg Value.bool (beq_eq_false_iff_ne.2 (show (((lvls rs).length : Nat) : Int) ≠ 0 by omega))) ?_
 refine wP rfl (wP rfl (wP rfl (wP rfl (wB 0 rfl rfl rfl ?_))))
 refine wl_call (X := Vec) rfl rfl rfl rfl rfl rfl (by kernel_rfl) (fun W1 hp => sidesV_gives W1 p cap rs (hP.hp hp)) ?_
 intro S hS
 obtain ⟨gS, cS, hSv, _⟩ := Vec.sds hS (by omega)
 rw [hSv]
 refine wP rfl (wP rfl ?_)
 refine wl_upd 51 (.bool false) rfl (congrArg Value.bool (by rw [eF, eS]; simp)) ?_
 refine wP rfl (wl_nil (zE (zS rfl (zI (zE (zA (zB ?_)))))))
 obtain ⟨m, hm⟩ : ∃ m, m = a % (lvls rs).length := ⟨_, rfl⟩
 have hml : m < (lvls rs).length := by rw [hm]; exact Nat.mod_lt _ (by omega)
 obtain ⟨z, hz⟩ : ∃ z, z = lvAt rs m := ⟨_, rfl⟩
 have hzm : z ∈ lvls rs := by rw [hz, ← lv_get hml]; exact List.getElem_mem hml
 have zs := lvls_sz hrg hzm
 have hm64 : ((a : Int) % ((lvls rs).length : Int)) = (m : Int) := by rw [hm]; exact (Int.natCast_emod _ _).symm
 refine wP rfl (wP rfl ?_)
 refine wl_cvA Tryz.underlying5 Tryz.underlying3 rfl rfl rfl rfl ?_
 refine wl_upd 55 (.int .i64 (a : Nat)) rfl (congrArg (Value.int .i64) (w64_nat (by omega))) ?_
 refine wP rfl (wP rfl ?_)
 refine wl_rem rfl rfl rfl rfl rfl (by omega) ?_
 refine wl_upd 58 (.int .i64 (m : Nat)) rfl (congrArg (Value.int .i64) (by rw [Int.tmod_eq_emod_of_nonneg (by omega)]; exact hm64)) ?_
 refine wI rfl rfl (by omega) (by omega) ?_
 refine wl_load rfl rfl rfl rfl (fun W hp => RowAt.load 0 tH rfl ((fun W1 hp => lv_row hLq hp 1 rfl m hml) W hp) rfl) ?_
 refine wP rfl (wl_nil ?_)
 rw [← hz]
 refine zE (zA (zB (wB 0 rfl rfl rfl (wP rfl ?_))))
 refine wl_call (X := Vec) rfl rfl rfl rfl rfl rfl (by kernel_rfl) (fun W1 hp => lStarts_gives W1 p cap rs (hP.hp hp) z (zs.mono (by decide))) ?_
 intro U hU
 obtain ⟨pU, cU, hUv, _⟩ := ints_mem hU
 rw [hUv]
 iterate 5 refine wP rfl ?_
 refine wl_nil (zE (zA (zB (wB 0 rfl rfl rfl (wP rfl ?_)))))
 refine wl_call (X := Vec × PrMk) rfl rfl rfl rfl rfl rfl (by kernel_rfl) (fun W1 hp => lPairs_gives W1 p cap rs (hP.hp hp) z (zs.mono (by decide))) ?_
 rintro ⟨P, mk⟩ ⟨hmk, hPV⟩
 obtain ⟨L, hL⟩ : ∃ L, L = prW (allF rs) z := ⟨_, rfl⟩
 have hmk : mk.map (·.2) = L := by rw [hL]; exact hmk
 have hPV : P.OK 1 mk.length (prRow mk) := hPV
 obtain ⟨pP, cP, hPv, hPr⟩ := pairs_nz hmk hPV
 have hLl : L.length ≤ 576 := by
  have h1 := prWT_len (allF rs) z (prs (allF rs)).length
  rw [prWT_all, ← hL, eF] at h1
  have := Nat.mul_le_mul h12 h12
  omega
 dsimp only
 rw [hPv]
 iterate 5 refine wP rfl ?_
 refine wl_nil (ne_then ?_)
 try refine wc_seq ?_
 refine wc_cutS (X := Unit) (fun _ => [(2, selfP b2), (7, .slice (some ⟨gF, 0, none⟩) (allF rs).length cF), (9, str (numS z)), (12, .slice pP L.length cP)]) (fun _ => [bxE b2 24 (slv p rs.length cap), V.bx 37 (nS (lvls rs)), F.bx 39 (frC (allF rs)), S.bx 42 (cellsOf rs.flatten), U.bx 3 (iC (stI rs z (tot rs))), P.bx 58 (prRow mk), prB mk]) (fun _ => True) ?_ ?_
 ·refine zA (zB ?_)
  iterate 10 refine wP rfl ?_
  by_cases hu : stI rs z (tot rs) = []
  ·have hLn : L ≠ [] := by rw [hL]; exact (reason hzm).resolve_left fun h => h hu
   have hLp : 0 < L.length := List.length_pos_iff.2 hLn
   refine wl_upd 82 (.bool true) rfl (congrArg Value.bool (beq_iff_eq.2 (show (((stI rs z (tot rs)).length : Nat) : Int) = 0 by rw [hu]; rfl))) ?_
   refine wP rfl (wP rfl (wP rfl (wP rfl ?_)))
   refine wl_upd 86 (.bool false) rfl (congrArg Value.bool (beq_eq_false_iff_ne.2 (show ((L.length : Nat) : Int) ≠ 0 by omega))) ?_
   refine wP rfl (wP rfl (wl_nil (zE (zS rfl (zI ?_)))))
   exact ne_cutP () trivial ⟨rfl, rfl, rfl, rfl, trivial⟩ [0, 1, 2, 3, 4, 5, 6] (by decide) rfl
  ·have hup : 0 < (stI rs z (tot rs)).length := List.length_pos_iff.2 hu
   refine wl_upd 82 (.bool false) rfl (congrArg Value.bool (beq_eq_false_iff_ne.2 (show (((stI rs z (tot rs)).length : Nat) : Int) ≠ 0 by omega))) ?_
   refine wP rfl ?_
   iterate 3 refine wl_skip rfl rfl ?_
   refine wP rfl (wP rfl (wl_nil (zE (zS rfl (zI ?_)))))
   exact ne_cutP () trivial ⟨rfl, rfl, rfl, rfl, trivial⟩ [0, 1, 2, 3, 4, 5, 6] (by decide) rfl
 intro _ _
 refine zA (zA (zB (wP rfl (wP rfl (wP rfl (wl_nil (zE (zH ?_))))))))
 refine wc_loop (X := Nat) (fun i => [(2, selfP b2), (7, .slice (some ⟨gF, 0, none⟩) (allF rs).length cF), (9, str (numS z)), (89, .slice pP L.length cP), (90, .int .i64 (L.length : Nat)), (91, .int .i64 (i : Nat))]) (fun _ => [bxE b2 24 (slv p rs.length cap), V.bx 37 (nS (lvls rs)), F.bx 39 (frC (allF rs)), S.bx 42 (cellsOf rs.flatten), U.bx 3 (iC (stI rs z (tot rs))), P.bx 58 (prRow mk), prB mk]) (fun i => i ≤ L.length) (fun i => L.length - i) 0 (Nat.zero_le _) ⟨rfl, rfl, rfl, rfl, rfl, rfl, trivial⟩ [] rfl ?_
 intro i hi
 have hi : i ≤ L.length := hi
 refine zA (zB (wP rfl ?_))
 by_cases hlt : i < L.length
 ·refine wl_upd 92 (.bool true) rfl (congrArg Value.bool (decide_eq_true (by omega))) ?_
  refine wl_nil (zE (zA (zR rfl (zI (zE (zA (zH (zA (zB ?_)))))))))
  obtain ⟨gP, hpe, hrow⟩ := hPr (by omega)
  subst hpe
  obtain ⟨c, hc⟩ := hrow i hlt
  obtain ⟨q, hq⟩ : ∃ q, q = L[i] := ⟨_, rfl⟩
  rw [← hq] at hc
  obtain ⟨k1, k2, k3, k4⟩ := prW_mem (hL ▸ (hq ▸ List.getElem_mem hlt : q ∈ L) : q ∈ prW (allF rs) z)
  have pf := (allF_pl hrg (fr_mem (F := allF rs) (i := q.1) (by omega))).ok
  have pg := (allF_pl hrg (fr_mem k2)).ok
  refine wI rfl rfl (by omega) (by omega) ?_
  refine wl_load rfl rfl rfl rfl (fun W hp => RowAt.load 0 tH rfl ((fun W1 hp => (hc hp 5 6 rfl rfl).1) W hp) rfl) ?_
  refine wP rfl (wl_nil (zE (zA (zA ?_))))
  refine zT Tryz.mixed (by kernel_rfl) ?_
  refine qP rfl (qP rfl (qP rfl ?_))
  refine wq_upd 97 (.bool false) rfl rfl ?_
  refine qP rfl (qP rfl ?_)
  refine qI rfl rfl (by omega) (by omega) ?_
  refine wq_load rfl rfl rfl rfl (fun W hp => RowAt.load 0 tH rfl ((fun W1 hp => pr0 (hc hp 5 6 rfl rfl).2) W hp) rfl) ?_
  refine qP rfl ?_
  refine wq_upd 102 (.bool false) rfl (congrArg Value.bool (decide_eq_false (by omega))) ?_
  refine qP rfl (qP rfl (qP rfl ?_))
  refine qI rfl rfl (by omega) (by omega) ?_
  refine wq_load rfl rfl rfl rfl (fun W hp => RowAt.load 0 tH rfl ((fun W1 hp => pr0 (hc hp 5 6 rfl rfl).2) W hp) rfl) ?_
  refine qP rfl ?_
  refine qI rfl rfl (by omega) (by omega) ?_
  refine wq_load rfl rfl rfl rfl (fun W hp => RowAt.load 0 tH rfl ((fun W1 hp => pr1 (hc hp 5 6 rfl rfl).2) W hp) rfl) ?_
  refine qP rfl ?_
  refine wq_upd 111 (.bool false) rfl (congrArg Value.bool (decide_eq_false (by omega))) ?_
  refine qP rfl (qP rfl (qP rfl ?_))
  refine qI rfl rfl (by omega) (by omega) ?_
  refine wq_load rfl rfl rfl rfl (fun W hp => RowAt.load 0 tH rfl ((fun W1 hp => pr1 (hc hp 5 6 rfl rfl).2) W hp) rfl) ?_
  refine qP rfl (qP rfl (qP rfl ?_))
  refine wq_upd 119 (.bool false) rfl (congrArg Value.bool (decide_eq_false (by omega))) ?_
  refine qP rfl (qP rfl (qP rfl (qP rfl ?_)))
  refine qI rfl rfl (by omega) (by omega) ?_
  refine wq_load rfl rfl rfl rfl (fun W hp => RowAt.load 0 tH rfl ((fun W1 hp => pr0 (hc hp 5 6 rfl rfl).2) W hp) rfl) ?_
  refine qI rfl rfl (by omega) (by omega) ?_
  refine qP rfl ?_
  refine wq_load rfl rfl rfl rfl (fun W hp => RowAt.load 0 tH rfl ((fun W1 hp => hFr hp 2 rfl q.1 (by omega)) W hp) rfl) ?_
  refine qP rfl (qP rfl ?_)
  refine qI rfl rfl (by omega) (by omega) ?_
  refine wq_load rfl rfl rfl rfl (fun W hp => RowAt.load 0 tH rfl ((fun W1 hp => pr1 (hc hp 5 6 rfl rfl).2) W hp) rfl) ?_
  refine qI rfl rfl (by omega) (by omega) ?_
  refine qP rfl ?_
  refine wq_load rfl rfl rfl rfl (fun W hp => RowAt.load 0 tH rfl ((fun W1 hp => hFr hp 2 rfl q.2 k2) W hp) rfl) ?_
  refine wq_eqB Tryz.underlying4 rfl rfl rfl rfl rfl rfl ?_
  refine wq_upd 136 (.bool false) rfl (congrArg Value.bool (by rw [k3]; simp)) ?_
  refine qP rfl (wq_nil (wl_nil (zE (zS rfl (zI (zE (zA (zB (wP rfl (wP rfl ?_))))))))))
  refine wI rfl rfl (by omega) (by omega) ?_
  refine wl_load rfl rfl rfl rfl (fun W hp => RowAt.load 0 tH rfl ((fun W1 hp => pr0 (hc hp 5 6 rfl rfl).2) W hp) rfl) ?_
  refine wI rfl rfl (by omega) (by omega) ?_
  refine wl_load rfl rfl rfl rfl (fun W hp => RowAt.load 0 tH rfl ((fun W1 hp => hFr hp 2 rfl q.1 (by omega)) W hp) rfl) ?_
  refine wP rfl ?_
  refine wl_call1 rfl rfl rfl rfl rfl rfl (by kernel_rfl) (fun W1 hp => fPos_gives (fr (allF rs) q.1) pf z (zs.mono (by decide)) W1 (hv.hp hp) (ht.hp hp)) ?_
  iterate 5 refine wP rfl ?_
  refine wl_nil (zE (zA (zB (wP rfl (wP rfl ?_)))))
  refine wI rfl rfl (by omega) (by omega) ?_
  refine wl_load rfl rfl rfl rfl (fun W hp => RowAt.load 0 tH rfl ((fun W1 hp => pr1 (hc hp 5 6 rfl rfl).2) W hp) rfl) ?_
  refine wI rfl rfl (by omega) (by omega) ?_
  refine wl_load rfl rfl rfl rfl (fun W hp => RowAt.load 0 tH rfl ((fun W1 hp => hFr hp 2 rfl q.2 k2) W hp) rfl) ?_
  refine wP rfl ?_
  refine wl_call1 rfl rfl rfl rfl rfl rfl (by kernel_rfl) (fun W1 hp => fPos_gives (fr (allF rs) q.2) pg z (zs.mono (by decide)) W1 (hv.hp hp) (ht.hp hp)) ?_
  iterate 5 refine wP rfl ?_
  refine wl_nil (zE (zA (zB ?_)))
  iterate 10 refine wP rfl ?_
  refine wl_upd 169 (.bool false) rfl (congrArg Value.bool (by show (!_) = false; rw [strEqB, decide_eq_true (by rw [k4])]; rfl)) ?_
  refine wP rfl (wl_nil (zE (zS rfl (zI (zN (zE (zB (wP rfl ?_))))))))
  refine wl_upd 171 (.int .i64 ((i + 1 : Nat) : Int)) rfl (congrArg (Value.int .i64) (w64_succ (by omega))) ?_
  refine wP rfl (wl_nil ?_)
  exact ne_loop (i + 1) hlt (by show L.length - (i + 1) < L.length - i; omega) ⟨rfl, rfl, rfl, rfl, rfl, rfl, trivial⟩ [] rfl
 ·refine wl_upd 92 (.bool false) rfl (congrArg Value.bool (decide_eq_false (by omega))) ?_
  refine wl_nil (zE (zA (zS rfl (zJ (zK (zK (zL (zE (zA (zB ?_))))))))))
  refine wl_call1 rfl rfl rfl rfl rfl rfl (by kernel_rfl) (fun W1 hp => awakeV_gives W1 (hd.hp hp) (hv.hp hp) (ht.hp hp)) ?_
  refine wP rfl (wl_nil (zE (zO ?_)))
  exact ne_ret1 tH rfl (.tmp rfl) () rfl trivial fun W _ => NewBx.nil _ _
end Go.Proofs.YtlagebbefnnnnaaGreatDoor
namespace Go.Proofs.YtlagebbefnnnnaaGreatDoor
open Go Go.RowKit Go.Am Go.ChangeShapes Go.WideShapes Go.Deep
set_option maxRecDepth 10000
theorem c42 : Tryz.prog.cellsOf 42 = 7 := by kernel_rfl
theorem c27 : Tryz.prog.cellsOf 32 = 1 := by kernel_rfl
theorem c24 : Tryz.prog.cellsOf 24 = 1 := by kernel_rfl
theorem c22 : Tryz.prog.cellsOf 22 = 1 := by kernel_rfl
theorem c3 : Tryz.prog.cellsOf 3 = 1 := by kernel_rfl
theorem c4 : Tryz.prog.cellsOf 4 = 1 := by kernel_rfl
theorem bulk_one {H : Type} (d : DataW H) : 1 ≤ Rows.uptoBulk d := by
 cases d with
 | lit l => cases l <;> simp [Rows.uptoBulk]
 | nil => simp [Rows.uptoBulk]
 | ptr d => simp [Rows.uptoBulk]
 | slice elems spare => simp [Rows.uptoBulk]
 | agg parts => simp [Rows.uptoBulk]
 | iface t d => simp [Rows.uptoBulk]
 | map entries => simp [Rows.uptoBulk]
 | held h => simp [Rows.uptoBulk]
theorem bulk_len {H : Type} (l : List (DataW H)) : l.length ≤ Rows.uptoBulkAll l := by
 induction l with
 | nil => simp [Rows.uptoBulkAll]
 | cons x r ih => have := bulk_one x; simp only [Rows.uptoBulkAll, List.length_cons]; omega
theorem bulk_sum {H : Type} {A : Type} (L : A → Nat) (D : A → DataW H) (is : List A) (h : ∀ i, i ∈ is → L i + 1 ≤ Rows.uptoBulk (D i)) :
  (is.map L).sum + is.length ≤ Rows.uptoBulkAll (is.map D) := by
 induction is with
 | nil => simp [Rows.uptoBulkAll]
 | cons x r ih =>
  have h1 := h x (.head _)
  have h2 := ih fun i hi => h i (.tail _ hi)
  simp only [List.map_cons, List.sum_cons, List.length_cons, Rows.uptoBulkAll]
  omega
theorem bulk_slice {H : Type} (e s : List (DataW H)) : Rows.uptoBulkAll e + 1 ≤ Rows.uptoBulk (.slice e s) := by
 simp only [Rows.uptoBulk]; omega
theorem cell_plain {w : World} {a : Addr} {v : Value} (h : w.cell? a = some v) : a.spot = none ∧ a.block < w.heap.size := by
 unfold World.cell? at h
 split at h
 ·rename_i hb
  refine ⟨?_, ?_⟩
  ·cases hs : a.spot with
   | none => rfl
   | some k => simp [hs] at h
  ·exact (Array.getElem?_eq_some_iff.1 hb).1
 ·cases h
theorem open_row {w : World} {base n : Nat} {a : Addr} {cs : List Value} (h : w.cells? base a n = some cs) (hn : 0 < n) : a.spot = none ∧ RowAt w a.block a.off cs := by
 obtain ⟨_, hl, hg⟩ := World.cells?_some h
 have h0 := hg 0 hn
 have hv : cs[0]? = some cs[0] := List.getElem?_eq_getElem (by omega)
 rw [hv] at h0
 have hp := cell_plain h0
 have hs : a.spot = none := by simpa [Addr.add] using hp.1
 refine ⟨hs, ⟨by simpa [Addr.add] using hp.2, fun j x hx => ?_⟩⟩
 have hj : j < n := by rw [← hl]; exact (List.getElem?_eq_some_iff.1 hx).1
 rw [← hx, ← hg j hj]
 congr 1
 unfold Addr.add
 split
 ·subst_vars; cases a; simp_all
 ·rfl
theorem add_off {a : Addr} (hs : a.spot = none) (n : Nat) : a.add n = ⟨a.block, a.off + n, none⟩ := by
 unfold Addr.add
 split
 ·subst_vars; cases a; simp_all
 ·rfl
def Sd.in64 (s : Sd) : Prop := ∀ z ∈ [s.x, s.y, s.rise, s.run, s.plate, s.over], -9223372036854775808 ≤ z ∧ z ≤ 9223372036854775807
section
variable {H : Type} {enc : TypeId × Value → H} {w : World} {base : Nat} {spare : Nat → Bool} {held : Bool} {fuel : Nat} {cs : List Value} {x : DataW H × List MemPlace}
theorem open_sd (h : DataW.trod enc Tryz.prog w base spare held fuel 42 cs = some x) : ∃ s : Sd, cs = s.cells ∧ s.in64 := by
 obtain ⟨xs, m, rfl, rfl, hl, hx, hf⟩ := DataW.trod_struct Tryz.underlying42 h
 rw [c42] at hl
 have g : ∀ (i : Nat) (o t : Nat) (f : Field), (match Tryz.prog.underlying 42 with | some (.struct fs) => fs[i]? | _ => none) = some f → f.offset = o → f.type = t →
   ∃ y, DataW.trod enc Tryz.prog w base spare held m t ((cs.drop o).take (Tryz.prog.cellsOf t)) = some y := by
  intro i o t f hi ho ht
  rw [Tryz.underlying42] at hi
  subst ho; subst ht
  have h1 := hf i f hi
  have h2 : i < xs.length := by rw [hx]; exact (Array.getElem?_eq_some_iff.1 hi).1
  rw [List.getElem?_eq_getElem h2] at h1
  exact ⟨_, h1⟩
 match cs, hl with
 | [v0, v1, v2, v3, v4, v5, v6], _ =>
  have gi : ∀ (i o : Nat) (f : Field) (v : Value), (match Tryz.prog.underlying 42 with | some (.struct fs) => fs[i]? | _ => none) = some f → f.offset = o → f.type = 3 → ([v0, v1, v2, v3, v4, v5, v6].drop o).take 1 = [v] →
    ∃ z, v = .int .i64 z ∧ -9223372036854775808 ≤ z ∧ z ≤ 9223372036854775807 := by
   intro i o f v h1 h2 h3 h4
   obtain ⟨y, hy⟩ := g i o 3 f h1 h2 h3
   rw [c3, h4] at hy
   obtain ⟨z, e1, _, hw⟩ := DataW.trod_int Tryz.underlying3 hy
   refine ⟨z, by simpa using e1, ?_⟩
   simpa [Lit.wf, IntKind.min, IntKind.max, IntKind.signed, IntKind.bits] using hw
  obtain ⟨z0, rfl, b0⟩ := gi 0 0 _ v0 (by rw [Tryz.underlying42]; rfl) rfl rfl rfl
  obtain ⟨z1, rfl, b1⟩ := gi 1 1 _ v1 (by rw [Tryz.underlying42]; rfl) rfl rfl rfl
  obtain ⟨z2, rfl, b2⟩ := gi 2 2 _ v2 (by rw [Tryz.underlying42]; rfl) rfl rfl rfl
  obtain ⟨z3, rfl, b3⟩ := gi 3 3 _ v3 (by rw [Tryz.underlying42]; rfl) rfl rfl rfl
  obtain ⟨z5, rfl, b5⟩ := gi 5 5 _ v5 (by rw [Tryz.underlying42]; rfl) rfl rfl rfl
  obtain ⟨z6, rfl, b6⟩ := gi 6 6 _ v6 (by rw [Tryz.underlying42]; rfl) rfl rfl rfl
  obtain ⟨y4, hy4⟩ := g 4 4 4 _ (by rw [Tryz.underlying42]; rfl) rfl rfl
  rw [c4] at hy4
  obtain ⟨z4, e4, _⟩ := DataW.trod_bool Tryz.underlying4 hy4
  obtain rfl : v4 = .bool z4 := by simpa using e4
  refine ⟨⟨z0, z1, z2, z3, z4, z5, z6⟩, rfl, ?_⟩
  intro z hz
  simp only [List.mem_cons, List.not_mem_nil, or_false] at hz
  rcases hz with rfl | rfl | rfl | rfl | rfl | rfl <;> assumption
theorem open_ring (h : DataW.trod enc Tryz.prog w base spare held fuel 32 cs = some x) :
  ∃ (p : Option Addr) (cap : Nat) (l : List Sd), cs = [slv p l.length cap] ∧ RingP w p l ∧ (∀ s ∈ l, s.in64) ∧ l.length + 1 ≤ Rows.uptoBulk x.1 := by
 rcases open_slice Tryz.underlying32 h with ⟨rfl, rfl⟩ | ⟨a, len, cap, m, n, D, Pl, rfl, _, hl, _, hm, rfl, hx⟩
 ·exact ⟨none, 0, [], rfl, .inl rfl, (fun _ hs => by cases hs), bulk_one _⟩
 have hlm : len ≤ m := by rw [hm]; split <;> omega
 obtain ⟨S, hS⟩ := choose_lt (α := Sd) (n := len) (p := fun i s => w.cells? base (a.add (i * 7)) 7 = some s.cells ∧ s.in64) fun i hi => by
  obtain ⟨cs', h1, h2⟩ := hx i (by omega)
  rw [c42] at h1
  obtain ⟨s, rfl, h3⟩ := open_sd h2
  exact ⟨s, h1, h3⟩
 refine ⟨some a, cap, (List.range len).map S, by simp, ?_, ?_, ?_⟩
 ·by_cases h0 : len = 0
  ·subst h0; exact .inl rfl
  ·have hs : a.spot = none := by simpa [Addr.add] using (open_row (hS 0 (by omega)).1 (by decide)).1
   refine .inr ⟨a.block, a.off, by cases a; simp_all, ⟨fun i s hi => ?_⟩⟩
   simp only [List.getElem?_map, Option.map_eq_some_iff] at hi
   obtain ⟨k, hk, rfl⟩ := hi
   have hk' : i < len ∧ k = i := by
    have := List.getElem?_eq_some_iff.1 hk
    obtain ⟨h1, h2⟩ := this
    simp at h1 h2
    exact ⟨h1, h2.symm⟩
   obtain ⟨h1, rfl⟩ := hk'
   have := (open_row (hS k h1).1 (by decide)).2
   rwa [add_off hs] at this
 ·intro s hs
  simp only [List.mem_map, List.mem_range] at hs
  obtain ⟨i, hi, rfl⟩ := hs
  exact (hS i hi).2
 ·have h1 := bulk_len ((List.range len).map D)
  have h2 := bulk_slice ((List.range len).map D) ((List.range (m - len)).map fun j => D (len + j))
  simp only [List.length_map, List.length_range] at h1 ⊢
  omega
theorem open_rings (h : DataW.trod enc Tryz.prog w base spare held fuel 22 cs = some x) :
  ∃ (p : Option Addr) (cap : Nat) (rs : List (List Sd)), cs = [slv p rs.length cap] ∧ RingsP w p rs ∧ (∀ l ∈ rs, ∀ s ∈ l, s.in64) ∧ tot rs + rs.length + 1 ≤ Rows.uptoBulk x.1 := by
 rcases open_slice Tryz.underlying22 h with ⟨rfl, rfl⟩ | ⟨a, len, cap, m, n, D, Pl, rfl, _, hl, _, hm, rfl, hx⟩
 ·exact ⟨none, 0, [], rfl, .inl rfl, (fun _ hs => by cases hs), bulk_one _⟩
 have hlm : len ≤ m := by rw [hm]; split <;> omega
 obtain ⟨L, hL⟩ := choose_lt (α := List Sd) (n := len) (p := fun i l => ∃ q c, w.cells? base (a.add (i * 1)) 1 = some [slv q l.length c] ∧ RingP w q l ∧ (∀ s ∈ l, s.in64) ∧ l.length + 1 ≤ Rows.uptoBulk (D i)) fun i hi => by
  obtain ⟨cs', h1, h2⟩ := hx i (by omega)
  rw [c27] at h1
  obtain ⟨q, c, l, rfl, h3, h4, h5⟩ := open_ring h2
  exact ⟨l, q, c, h1, h3, h4, h5⟩
 refine ⟨some a, cap, (List.range len).map L, by simp, ?_, ?_, ?_⟩
 ·by_cases h0 : len = 0
  ·subst h0; exact .inl rfl
  ·obtain ⟨q0, c0, h00, _⟩ := hL 0 (by omega)
   have hs : a.spot = none := by simpa [Addr.add] using (open_row h00 (by decide)).1
   refine .inr ⟨a.block, a.off, by cases a; simp_all, ⟨fun i l hi => ?_⟩⟩
   simp only [List.getElem?_map, Option.map_eq_some_iff] at hi
   obtain ⟨k, hk, rfl⟩ := hi
   have hk' : i < len ∧ k = i := by
    obtain ⟨h1, h2⟩ := List.getElem?_eq_some_iff.1 hk
    simp at h1 h2
    exact ⟨h1, h2.symm⟩
   obtain ⟨h1, rfl⟩ := hk'
   obtain ⟨q, c, h2, h3, _⟩ := hL k h1
   have := (open_row h2 (by decide)).2
   rw [add_off hs] at this
   exact ⟨q, c, this, h3⟩
 ·intro l hl'
  simp only [List.mem_map, List.mem_range] at hl'
  obtain ⟨i, hi, rfl⟩ := hl'
  obtain ⟨_, _, _, _, h3, _⟩ := hL i hi
  exact h3
 ·have h1 := bulk_sum (fun i => (L i).length) D (List.range len) fun i hi => by
   obtain ⟨_, _, _, _, _, h3⟩ := hL i (by simpa using hi)
   exact h3
  have h2 := bulk_slice ((List.range len).map D) ((List.range (m - len)).map fun j => D (len + j))
  simp only [tot, List.map_map, List.length_map, List.length_range] at h1 ⊢
  have h3 : (List.range len).map (List.length ∘ L) = (List.range len).map fun i => (L i).length := rfl
  rw [h3]
  show _ ≤ Rows.uptoBulk (DataW.slice _ _)
  omega
end
section
variable {H : Type} {enc : TypeId × Value → H} {w : World} {base : Nat} {spare : Nat → Bool} {held : Bool} {v : Value} {d : DataW H} {ps : List MemPlace}
theorem open_plan {r : Reach} {b0 : Nat} (hv : Value.okWide Tryz.prog w r b0 24 v) (h : DataW.Trod enc Tryz.prog w base spare held 24 v d ps) :
  ∃ (p : Option Addr) (cap : Nat) (rs : List (List Sd)), v = planV p rs.length cap ∧ RingsP w p rs ∧ (∀ l ∈ rs, ∀ s ∈ l, s.in64) ∧ tot rs + rs.length + 2 ≤ Rows.uptoBulk d := by
 obtain ⟨cs, rfl, hc⟩ := okWide_struct Tryz.underlying24 hv
 obtain ⟨fuel, hf⟩ := h
 obtain ⟨xs, m, rfl, hx, hl, hn, hg⟩ := DataW.trod_struct Tryz.underlying24 hf
 rw [c24] at hc
 obtain ⟨y0, rfl⟩ : ∃ y, xs = [y] := by
  match xs, hn with
  | [y], _ => exact ⟨y, rfl⟩
 have h0 : DataW.trod enc Tryz.prog w base spare held m 22 (List.take (Tryz.prog.cellsOf 22) (List.drop 0 cs.toList)) = some y0 := hg 0 _ rfl
 rw [c22] at h0
 obtain ⟨c0, rfl⟩ : ∃ c, cs = #[c] := by
  obtain ⟨l⟩ := cs
  match l, hc with
  | [c], _ => exact ⟨c, rfl⟩
 obtain ⟨p, cap, rs, e1, e2, e3, e4⟩ := open_rings h0
 simp only [Prod.mk.injEq] at hx
 obtain ⟨rfl, _⟩ := hx
 refine ⟨p, cap, rs, ?_, e2, e3, ?_⟩
 ·have : c0 = slv p rs.length cap := by simpa [Value.cells] using e1
  rw [this]
 ·simp only [List.map_cons, List.map_nil, Rows.uptoBulk, Rows.uptoBulkAll]
  have : y0.1 = (y0 : DataW H × List MemPlace).1 := rfl
  omega
end
end Go.Proofs.YtlagebbefnnnnaaGreatDoor
namespace Go.Proofs.YtlagebbefnnnnaaGreatDoor
open Go
noncomputable abbrev laidL : List (String × DataW Unit) := Rows.frontCornersRow.laid
end Go.Proofs.YtlagebbefnnnnaaGreatDoor
namespace Go.Proofs.YtlagebbefnnnnaaGreatDoor
open Go Go.RowKit Go.Am Go.ChangeShapes Go.WideShapes Go.Deep Go.ChangeAt
set_option maxRecDepth 100000
section
variable {H : Type} {enc : TypeId × Value → H} {w : World} {base : Nat} {spare : Nat → Bool} {held : Bool} {v : Value} {d : DataW H} {ps : List MemPlace}
end
theorem own : ownKnob Tryz.prog.godebug = none := by kernel_rfl
theorem laidOut : laidOutB Tryz.prog = true := by kernel_rfl
theorem laid_plain : (laidL.all fun x => x.2.handleName?.isNone) = true := by kernel_rfl
theorem tab_of_laid {W : World} (h : laidMetH Tryz.prog laidL W) : TabP W := by
 rw [MakeChecks.laidMetH_plain _ _ _ laid_plain] at h
 exact Lib.tabIs_of_head (g := 1) (t := 318) (e := 263) (n := 20) (by kernel_rfl) (by kernel_rfl) (by kernel_rfl) (by kernel_rfl) (by kernel_rfl) (by kernel_rfl) h.tail.tail
theorem max_of {W : World} (hS : W.ShapedOpen Tryz.prog) : MaxP W :=
 cell_of_shapedOpen_int (g := 6) (t := 3) (zero := #[.int .i64 0]) hS (of_decide_eq_true (by kernel_rfl)) (by kernel_rfl) rfl (by kernel_rfl) (by kernel_rfl) Tryz.underlying3
noncomputable def witW (os : Os) : World := World.laidAll Tryz.prog os laidL
theorem wit_laid (os : Os) (args : Array Value) : laidMetH Tryz.prog laidL ((witW os).forCall (fun _ _ => 0) ⟨#[], args, []⟩).memory := by
 rw [MakeChecks.laidMetH_plain _ _ _ laid_plain]
 exact laidMet_laidAll _ (by kernel_rfl) (by kernel_rfl)
theorem wit_shaped (os : Os) (args : Array Value) : ((witW os).forCall (fun _ _ => 0) ⟨#[], args, []⟩).Shaped Tryz.prog :=
 World.shaped_of_ZipB (by kernel_rfl) (by kernel_rfl)
theorem wit_row {H : Type} {enc : TypeId × Value → H} (os : Os) {f : FuncId} {fn : Func} {s : OpenSpec} {conds : List PathCond} (args : Array Value)
  (hok : Input.okWideB Tryz.prog ((witW os).forCall (fun _ _ => 0) ⟨#[], args, []⟩) f ⟨#[], args, []⟩ = true)
  (hrow : s.preRow enc Tryz.prog fn conds false laidL ((witW os).forCall (fun _ _ => 0) ⟨#[], args, []⟩).memory args) :
  ∃ (w : World) (tape : Tape) (i : Input), w.os = os ∧ (w.forCall tape i).Shaped Tryz.prog ∧ i.vars = [] ∧ Input.okWide Tryz.prog (w.forCall tape i) .any w.heap.size f i ∧
   s.preRow enc Tryz.prog fn conds false laidL (w.forCall tape i).memory i.args ∧ ({} : Assume).holds Tryz.prog (lone (Frame.enter Tryz.prog f i.args .normal) [] (w.forCall tape i)) :=
 ⟨witW os, fun _ _ => 0, ⟨#[], args, []⟩, World.laidAll_os _ _ _, wit_shaped os args, (Input.okWide_of_okWideB (base := 0) hok).1, (Input.okWide_of_okWideB hok).2, hrow, by
  simp only [Assume.holds]
  exact ⟨by simp, by simp, by simp, by simp, by simp, by simp⟩⟩
theorem cDir : Tryz.prog.cellsOf 176 = 2 := by kernel_rfl
theorem cDirs : Tryz.prog.cellsOf 177 = 8 := by kernel_rfl
theorem cBool : Tryz.prog.cellsOf 4 = 1 := by kernel_rfl
theorem cInt : Tryz.prog.cellsOf 3 = 1 := by kernel_rfl
section
variable {H : Type} {enc : TypeId × Value → H} {w : World} {base : Nat} {spare : Nat → Bool} {held : Bool} {fuel : Nat} {cs : List Value} {x : DataW H × List MemPlace}
theorem open_dir (h : DataW.trod enc Tryz.prog w base spare held fuel 176 cs = some x) : ∃ (b : Bool) (z : Int), cs = [.bool b, .int .i64 z] ∧ x.1 = .agg [.lit (.bool b), .lit (.int .i64 z)] := by
 obtain ⟨xs, m, rfl, rfl, hl, hn, hg⟩ := DataW.trod_struct Tryz.underlying176 h
 rw [cDir] at hl
 match cs, hl with
 | [u, v], _ =>
  match xs, hn with
  | [y0, y1], _ =>
   have h0 : DataW.trod enc Tryz.prog w base spare held m 4 (([u, v].drop 0).take (Tryz.prog.cellsOf 4)) = some y0 := hg 0 _ rfl
   have h1 : DataW.trod enc Tryz.prog w base spare held m 3 (([u, v].drop 1).take (Tryz.prog.cellsOf 3)) = some y1 := hg 1 _ rfl
   rw [cBool] at h0
   rw [cInt] at h1
   obtain ⟨b, e0, f0⟩ := DataW.trod_bool Tryz.underlying4 h0
   obtain ⟨z, e1, f1, _⟩ := DataW.trod_int Tryz.underlying3 h1
   refine ⟨b, z, ?_, ?_⟩
   ·have a0 : u = .bool b := by simpa using e0
    have a1 : v = .int .i64 z := by simpa using e1
    rw [a0, a1]
   ·simp [f0, f1]
theorem open_dirs (h : DataW.trod enc Tryz.prog w base spare held fuel 177 cs = some x) (hx : x.1 = .agg [.agg [.lit (.bool false), .lit (.int .i64 1)], .agg [.lit (.bool true), .lit (.int .i64 (-1))], .agg [.lit (.bool false), .lit (.int .i64 (-1))], .agg [.lit (.bool true), .lit (.int .i64 1)]]) : cs = dirC := by
 obtain ⟨xs, m, rfl, rfl, hl, hn, hg⟩ := DataW.trod_array Tryz.underlying177 h
 rw [cDirs] at hl
 match cs, hl with
 | [a0, a1, a2, a3, a4, a5, a6, a7], _ =>
  match xs, hn with
  | [y0, y1, y2, y3], _ =>
   have h0 := hg 0 (by decide)
   have h1 := hg 1 (by decide)
   have h2 := hg 2 (by decide)
   have h3 := hg 3 (by decide)
   rw [cDir] at h0 h1 h2 h3
   obtain ⟨b0, z0, e0, f0⟩ := open_dir (x := y0) h0
   obtain ⟨b1, z1, e1, f1⟩ := open_dir (x := y1) h1
   obtain ⟨b2, z2, e2, f2⟩ := open_dir (x := y2) h2
   obtain ⟨b3, z3, e3, f3⟩ := open_dir (x := y3) h3
   simp only [List.map_cons, List.map_nil, f0, f1, f2, f3, DataW.agg.injEq, List.cons.injEq, DataW.lit.injEq, Lit.bool.injEq, Lit.int.injEq, true_and, and_true] at hx
   obtain ⟨⟨rfl, rfl⟩, ⟨rfl, rfl⟩, ⟨rfl, rfl⟩, ⟨rfl, rfl⟩⟩ := hx
   simp at e0 e1 e2 e3
   obtain ⟨rfl, rfl⟩ := e0
   obtain ⟨rfl, rfl⟩ := e1
   obtain ⟨rfl, rfl⟩ := e2
   obtain ⟨rfl, rfl⟩ := e3
   rfl
end
theorem dir_of_laid {W : World} (h : laidMetH Tryz.prog laidL W) : DirP W := by
 rw [MakeChecks.laidMetH_plain _ _ _ laid_plain] at h
 obtain ⟨ps, ⟨g', t', cs, fuel, p, q, hg', ht', hvar, hd, _, _⟩, _⟩ := h.tail.tail.tail.tail.tail.tail
 obtain rfl := Option.some.inj ((show Tryz.prog.globalNamed "kingpost/front.directions" = some 0 by kernel_rfl).symm.trans hg')
 obtain rfl := Option.some.inj ((show (Tryz.prog.globals[0]?).map (·.type) = some 177 by kernel_rfl).symm.trans ht')
 have e := open_dirs hd rfl
 have hc : ∀ i u, dirC[i]? = some u → W.cell? ⟨0, i, none⟩ = some u := fun i u hu => by
  rw [World.var?_cell hg' hvar i]
  rw [← e] at hu
  simpa using hu
 refine ⟨?_, fun m u hu => ?_⟩
 ·obtain ⟨c, ty, fr, h1, _⟩ := Sort.cells_of_cell? (hc 0 _ rfl)
  exact (Array.getElem?_eq_some_iff.1 h1).1
 ·rw [Nat.zero_add]
  exact hc m u hu
end Go.Proofs.YtlagebbefnnnnaaGreatDoor
