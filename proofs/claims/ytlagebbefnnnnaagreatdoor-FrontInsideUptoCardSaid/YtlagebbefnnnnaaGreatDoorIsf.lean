/-
  Lemmas that the theorem frontInside_upto_card needs (part 6 of 6).
-/
import Derived.Test.YtlagebbefnnnnaaGreatDoorIse
import Derived.Laws.StructEq
import Derived.Test.YtlagebbefnnnnaaGreatDoorRows
import Derived.Deep.Slices
import Derived.ChangeArms
import Derived.ChangeShapes
import Derived.WideShapes
import Derived.Carry
import Derived.Test.YtlagebbefnnnnaaGreatDoorCards
import Derived.Test.YtlagebbefnnnnaaGreatDoorTie
import Derived.ProofKit
import Derived.OpenShut
import Derived.Deep.DeepHandedRow
import Derived.Lib.LaidTab
import Derived.Stop.LaidErr
import Derived.Lay
import Derived.SevenTiedAt
import Derived.Shelf.Vars
namespace Go.Proofs.YtlagebbefnnnnaaGreatDoor
open Go Go.RowKit Go.Am Go.Lib
set_option maxRecDepth 10000
-- BOXES 4
def awF : FrP := ⟨false, 10, -1, q2 2 1, q2 3 1⟩
def awG : FrP := ⟨false, 0, 1, q2 1 2, q2 0 1⟩
theorem awF_sm : awF.Sm := by
 have h1 : szQ awF.sp 1 := ⟨by decide, by decide⟩
 have h2 : szQ awF.st 3 := ⟨by decide, by decide⟩
 exact ⟨⟨by decide, by decide, .inr rfl, h1.mono (by decide), h2.mono (by decide), by decide⟩, h1, h2⟩
theorem awG_sm : awG.Sm := by
 have h1 : szQ awG.sp 1 := ⟨by decide, by decide⟩
 have h2 : szQ awG.st 3 := ⟨by decide, by decide⟩
 exact ⟨⟨by decide, by decide, .inl rfl, h1.mono (by decide), h2.mono (by decide), by decide⟩, h1, h2⟩
theorem awF_v : frV awF = .agg #[.bool false, .int .i64 10, .int .i64 (-1), str [50], str [51]] := by
 show Value.agg #[.bool false, .int .i64 10, .int .i64 (-1), str (numS (q2 2 1)), str (numS (q2 3 1))] = _
 rw [ns2, ns3]
theorem awG_v : frV awG = .agg #[.bool false, .int .i64 0, .int .i64 1, str [49, 47, 50], str [48]] := by
 show Value.agg #[.bool false, .int .i64 0, .int .i64 1, str (numS (q2 1 2)), str (numS (q2 0 1))] = _
 rw [ns12, ns0]
theorem aw_p1 (W : World) (hv : MaxP W) (ht : TabP W) : CallsR Tryz.prog 38 #[.agg #[.bool false, .int .i64 10, .int .i64 (-1), str [50], str [51]], str [49]] W (fun _ : Unit => .tuple #[str [49, 48], .int .i64 0]) (fun _ => True) (fun _ => []) := by
 have h := fPos_gives awF awF_sm.ok (q2 1 1) ⟨by decide, by decide⟩ W hv ht
 rw [awF_v, ns1, show awF.at (q2 1 1) = q2 10 1 by decide +kernel, ns10] at h
 exact h
theorem aw_p5 (W : World) (hv : MaxP W) (ht : TabP W) : CallsR Tryz.prog 38 #[.agg #[.bool false, .int .i64 10, .int .i64 (-1), str [50], str [51]], str [53]] W (fun _ : Unit => .tuple #[str [54], .int .i64 0]) (fun _ => True) (fun _ => []) := by
 have h := fPos_gives awF awF_sm.ok (q2 5 1) ⟨by decide, by decide⟩ W hv ht
 rw [awF_v, ns5, show awF.at (q2 5 1) = q2 6 1 by decide +kernel, ns6] at h
 exact h
theorem aw_pl (W : World) (hv : MaxP W) (ht : TabP W) : CallsR Tryz.prog 51 #[.agg #[.bool false, .int .i64 10, .int .i64 (-1), str [50], str [51]]] W (fun _ : Unit => .tuple #[.agg #[str [48], str [45, 49, 47, 50], str [56]], .int .i64 0]) (fun _ => True) (fun _ => []) := by
 have h := fPlane_gives awF awF_sm.ok W hv ht
 have e : awF.plane = .tuple #[.agg #[str [48], str [45, 49, 47, 50], str [56]], .int .i64 0] := by
  rw [FrP.plane, if_neg (by decide), show awF.ax = false from rfl, show awF.slope = q2 (-1) 2 by decide +kernel, show awF.base = q2 8 1 by decide +kernel, nsm12, ns8]; rfl
 rw [awF_v, e] at h
 exact h
theorem aw_eqL : eqL awF awG = [q2 32 5] := by
 have h : (meetL awF awG).filter (frEq awF awG) = [q2 32 5] := by decide +kernel
 rw [eqL, h]
 show compQ [q2 32 5] = _
 rw [compQ]
theorem aw_eq (W : World) (hv : MaxP W) (ht : TabP W) : CallsR Tryz.prog 52 #[.agg #[.bool false, .int .i64 10, .int .i64 (-1), str [50], str [51]], .agg #[.bool false, .int .i64 0, .int .i64 1, str [49, 47, 50], str [48]]] W
  (fun V : Vec => .tuple #[V.val 1, .int .i64 0]) (fun V => V.OK 1 1 (nS [q2 32 5])) (fun V => [V.bx 37 (nS [q2 32 5])]) := by
 have h := fEqualS_gives awF awG awF_sm awG_sm rfl W hv ht
 rw [awF_v, awG_v, aw_eqL] at h
 exact h
theorem aw_se (W : World) (g b cap : Nat) (h1 : RowAt W g 0 (nS [q2 32 5])) (h2 : RowAt W b 0 [str [51, 50, 47, 53]]) :
  CallsR Tryz.prog 43 #[.slice (some ⟨g, 0, none⟩) 1 cap, .slice (some ⟨b, 0, none⟩) 1 1] W (fun _ : Unit => .bool true) (fun _ => True) (fun _ => []) := by
 have h := sEqual_gives W (some ⟨g, 0, none⟩) (some ⟨b, 0, none⟩) cap 1 [numS (q2 32 5)] [[51, 50, 47, 53]] (.inr ⟨g, 0, rfl, h1⟩) (.inr ⟨b, 0, rfl, h2⟩) (by decide) (by decide)
 rw [ns325, decide_eq_true rfl] at h
 exact h
theorem strEqL (a b : List UInt8) (h : a = b) : (((⟨a.toArray⟩ : ByteArray).toList == (⟨b.toArray⟩ : ByteArray).toList)) = true := (strEqB a b).trans (decide_eq_true h)
theorem plane_eq (W : World) (a b c a' b' c' : List UInt8) : (binOp .eql 89 (.agg #[str a, str b, str c]) (.agg #[str a', str b', str c'])).run Tryz.prog W = .ok (.bool (decide (a = a' ∧ b = b' ∧ c = c'))) W := by
 rw [run_eql_struct, run_equalIn_agg W 9999 89 _ _ (by kernel_rfl) (by kernel_rfl)]
 have hf : ∃ f1 f2 f3 : Field, (Tryz.prog.fieldsOf 89).toList = [f1, f2, f3] ∧ (f1.name ≠ "_" ∧ f1.type = 37 ∧ f1.offset = 0) ∧ (f2.name ≠ "_" ∧ f2.type = 37 ∧ f2.offset = 1) ∧ (f3.name ≠ "_" ∧ f3.type = 37 ∧ f3.offset = 2) := by
  unfold Program.fieldsOf; rw [Tryz.underlying89]
  exact ⟨_, _, _, rfl, ⟨by decide, rfl, rfl⟩, ⟨by decide, rfl, rfl⟩, ⟨by decide, rfl, rfl⟩⟩
 obtain ⟨f1, f2, f3, hf, ⟨n1, t1, o1⟩, ⟨n2, t2, o2⟩, ⟨n3, t3, o3⟩⟩ := hf
 rw [hf]
 have e : ∀ (x y : List UInt8) W, (Op.equalIn 9999 37 (str x) (str y)).run Tryz.prog W = .ok (decide (x = y)) W := fun x y W => by
  rw [run_equalIn_string W 9998 37 _ _ Tryz.underlying37, strEqB]
 by_cases h1 : a = a' <;> by_cases h2 : b = b' <;> by_cases h3 : c = c' <;> simp [Op.eqFields, part, Tryz.isAgg37, e, h1, h2, h3, n1, n2, n3, t1, t2, t3, o1, o2, o3]
section
variable {r : Option Nat} {n : Nat} {N : Nat} {D : List Deferred} {ops : List Oper} {Q : Exit → Act → World → Prop} {o : Oper} {rest : List Oper} {env : Env} {A : World → Prop}
theorem wl_eqPl (a b c a' b' c' : List UInt8) {d : Nat} {u : TypeId} {x y : Operand} (hg : guardE ops N env o = some true) (hd : o.dst = some d) (ho : o.op = .binOp .eql 89 x y u)
  (hx : evO N env x = some (.agg #[str a, str b, str c])) (hy : evO N env y = some (.agg #[str a', str b', str c']))
  (h : WL r n Tryz.prog N D ops Q rest ((d, .bool (decide (a = a' ∧ b = b' ∧ c = c'))) :: env) A) : WL r n Tryz.prog N D ops Q (o :: rest) env A :=
 wl_val hg hd (fun c e => by rw [ho] at e; cases e) (fun _ W hρ _ => by
  have hm : Tryz.prog.eqGuardType Tryz.prog.depth 89 = false := by kernel_rfl
  simp [execOp, ho, hρ _ _ hx, hρ _ _ hy, run_eqGuard_agg W .eql 89 x y _ _ hm, plane_eq]) h
end
set_option maxHeartbeats 8000000 in
theorem awakeF_gives (W : World) (hv : MaxP W) (ht : TabP W) : CallsR Tryz.prog 13 #[] W (fun _ : Unit => .bool true) (fun _ => True) (fun _ => []) := by
 refine calls_enter (args := []) Tryz.func13 rfl rfl rfl ?_
 refine zA (zB (wP rfl (wl_nil (zE (zA (zB ?_))))))
 refine wl_buildZ Tryz.hZ tH rfl rfl rfl rfl rfl rfl rfl rfl ?_
 (refine wl_allocZ Tryz.hZ rfl rfl rfl rfl ?_; intro)
 refine wS 0 rfl rfl rfl (wl_nil ?_)
 rename_i b1
 refine zE (zA (zB (wB 0 rfl rfl rfl ?_)))
 refine wl_call1 rfl rfl rfl rfl rfl rfl (by kernel_rfl) (fun W hp => aw_p1 W (hv.hp hp) (ht.hp hp)) ?_
 iterate 5 refine wP rfl ?_
 refine wl_nil (zE (zA (zB (wB 0 rfl rfl rfl ?_))))
 refine wl_call1 rfl rfl rfl rfl rfl rfl (by kernel_rfl) (fun W hp => aw_p5 W (hv.hp hp) (ht.hp hp)) ?_
 iterate 5 refine wP rfl ?_
 refine wl_nil (zE (zA (zB (wB 0 rfl rfl rfl ?_))))
 refine wl_call1 rfl rfl rfl rfl rfl rfl (by kernel_rfl) (fun W hp => aw_pl W (hv.hp hp) (ht.hp hp)) ?_
 refine wP rfl (wP rfl (wP rfl ?_))
 (refine wl_allocZ Tryz.hZ rfl rfl rfl rfl ?_; intro)
 refine wS 1 rfl rfl rfl (wP rfl (wl_nil ?_))
 rename_i b6
 refine zE (zA (zB (wB 0 rfl rfl rfl ?_)))
 refine wl_buildZ Tryz.hZ tH rfl rfl rfl rfl rfl rfl rfl rfl ?_
 refine wl_call (X := Vec) rfl rfl rfl rfl rfl rfl (by kernel_rfl) (fun W hp => aw_eq W (hv.hp hp) (ht.hp hp)) ?_
 intro V hV
 iterate 5 refine wP rfl ?_
 refine wl_nil (zE (zA (zB ?_)))
 iterate 9 refine wP rfl ?_
 refine wl_upd 40 (.bool true) rfl (congrArg Value.bool (strEqL _ _ rfl)) ?_
 refine wP rfl (wP rfl (wP rfl (wP rfl ?_)))
 refine wl_upd 44 (.bool true) rfl (congrArg Value.bool (strEqL _ _ rfl)) ?_
 refine wP rfl (wP rfl (wB 1 rfl rfl rfl ?_))
 refine wl_buildZ Tryz.hZ tH rfl rfl rfl rfl rfl rfl rfl rfl ?_
 refine wl_eqPl [48] [45, 49, 47, 50] [56] [48] [45, 49, 47, 50] [56] rfl rfl rfl rfl rfl ?_
 refine wl_upd 49 (.bool true) rfl (congrArg Value.bool (decide_eq_true ⟨rfl, rfl, rfl⟩)) ?_
 refine wP rfl (wP rfl (wP rfl ?_))
 (refine wl_buildRowZ Tryz.hZ tH rfl rfl rfl rfl rfl rfl rfl rfl rfl rfl rfl ?_; intro)
 rename_i b7
 obtain ⟨p, cap, junk⟩ := V
 cases p with
 | none => exact absurd (hV.nil rfl) (by decide)
 | some g =>
  refine wl_upd 52 (.slice (some ⟨g, 0, none⟩) 1 cap) rfl rfl ?_
  refine wl_call1 rfl rfl rfl rfl rfl rfl (by kernel_rfl) (fun W hp => aw_se W g b7 cap (row_pt hp 2 (A := []) (C := junk) rfl rfl rfl) (RowAt.of_bx hp 3 rfl rfl)) ?_
  refine wP rfl (wP rfl (wl_nil (zE (zO ?_))))
  exact ne_ret1 tH rfl (.tmp rfl) () rfl trivial fun W _ => NewBx.nil _ _
-- BOXES 5
-- CODE2
theorem flat_at {rs : List (List Sd)} {r : Nat} (hr : r < rs.length) (i : Nat) (hi : i < (rg rs r).length) : rs.flatten[tot (rs.take r) + i]? = some (sd (rg rs r) i) := by
 have e : rs.flatten = (rs.take r).flatten ++ (rg rs r ++ (rs.drop (r + 1)).flatten) := by
  conv => lhs; rw [← List.take_append_drop r rs, List.drop_eq_getElem_cons hr, List.flatten_append, List.flatten_cons]
  rw [show rs[r] = rg rs r by unfold rg; rw [List.getD_eq_getElem?_getD, List.getElem?_eq_getElem hr]; rfl]
 have hl : (rs.take r).flatten.length = tot (rs.take r) := List.length_flatten
 rw [e, List.getElem?_append_right (by omega), hl, Nat.add_sub_cancel_left, List.getElem?_append_left hi]
 exact sd_get hi
theorem flat_sd {rs : List (List Sd)} {r : Nat} (hr : r < rs.length) {i : Nat} (hi : i < (rg rs r).length) : sd rs.flatten (tot (rs.take r) + i) = sd (rg rs r) i := by
 have h1 := flat_at hr i hi
 have h2 := sd_get (l := rs.flatten) (List.getElem?_eq_some_iff.1 h1).1
 rw [h1] at h2
 exact (Option.some.inj h2).symm
theorem Vec.frs {V : Vec} {l : List FrP} (hV : V.OK 5 l.length (frC l)) (h0 : 0 < l.length) : ∃ g cap, V.val l.length = .slice (some ⟨g, 0, none⟩) l.length cap ∧
  ∀ {W0 W : World} {bxs : List Bx}, Hp W0 bxs W → ∀ k, nth bxs k = some (V.bx 39 (frC l)) → ∀ m f, l[m]? = some f → RowAt W g (0 + m * 5) (frV f).cells.toList := by
 obtain ⟨p, cap, junk⟩ := V
 cases p with
 | none => have := hV.nil rfl; omega
 | some g =>
  refine ⟨g, cap, rfl, fun {W0 W bxs} hp k hk m f hf => ?_⟩
  obtain ⟨hm, rfl⟩ := List.getElem?_eq_some_iff.1 hf
  refine row_pt hp k (A := frC (l.take m)) (C := frC (l.drop (m + 1)) ++ junk) hk ?_ (by rw [frC_len, List.length_take]; omega)
  have e : frC l = frC (l.take m) ++ ((frV l[m]).cells.toList ++ frC (l.drop (m + 1))) := by
   conv => lhs; rw [← List.take_append_drop m l, List.drop_eq_getElem_cons hm, frC_app]
   rfl
  rw [e, List.append_assoc, List.append_assoc]
theorem Vec.sds {V : Vec} {l : List Sd} (hV : V.OK 7 l.length (cellsOf l)) (h0 : 0 < l.length) : ∃ g cap, V.val l.length = slv (some ⟨g, 0, none⟩) l.length cap ∧
  ∀ {W0 W : World} {bxs : List Bx}, Hp W0 bxs W → ∀ k, nth bxs k = some (V.bx 42 (cellsOf l)) → ∀ m, m < l.length → RowAt W g (0 + m * 7) (sd l m).cells := by
 obtain ⟨p, cap, junk⟩ := V
 cases p with
 | none => have := hV.nil rfl; omega
 | some g =>
  refine ⟨g, cap, rfl, fun {W0 W bxs} hp k hk m hm => ?_⟩
  have hrow := RowAt.of_bx hp k hk rfl
  have hring : RingAt W g 0 l := RingAt.of_cells hrow.lt fun j u hj => by
   refine hrow.get j u ?_
   show (cellsOf l ++ junk)[j]? = some u
   rw [List.getElem?_append_left (List.getElem?_eq_some_iff.1 hj).1]
   exact hj
  exact hring.get m _ (sd_get hm)
-- BOXES 5
-- CODE2
theorem sign1_gives (z : Int) (W : World) : CallsR Tryz.prog 19 #[.int .i64 z] W (fun _ : Unit => .int .i64 (sgnZ z)) (fun _ => True) (fun _ => []) := by
 refine calls_enter (args := [.int .i64 z]) Tryz.func19 rfl rfl rfl ?_
 refine zA (zB (wP rfl (wl_nil (zE (zA (zB (wP rfl (wP rfl (wP rfl ?_)))))))))
 refine wl_upd 5 (.int .i64 (sgnZ z)) rfl (congrArg (Value.int .i64) (by unfold sgnZ; show (if _ then _ else _) = _; split <;> first | omega | (split <;> omega))) ?_
 refine wP rfl (wl_nil (zE (zO ?_)))
 exact ne_ret1 tH rfl (.tmp rfl) () rfl trivial fun W _ => NewBx.nil _ _
set_option maxHeartbeats 32000000 in
theorem insideF_gives (W : World) (p : Option Addr) (cap : Nat) (rs : List (List Sd)) (a : Nat) (ha : a < 256) (hn : rs.length < 1099511627776) (hT : tot rs < 1099511627776) (hR : RingsP W p rs) (hd : DirP W) (hv : MaxP W) (ht : TabP W) :
  CallsR Tryz.prog 4 #[planV p rs.length cap, .int .u8 (a : Nat)] W (fun _ : Unit => .bool true) (fun _ => True) (fun _ => []) := by
 refine calls_enter (args := [planV p rs.length cap, .int .u8 (a : Nat)]) Tryz.func4 rfl rfl rfl ?_
 refine zA (zB ?_)
 (refine wl_box rfl rfl rfl rfl ?_; intro)
 refine wP rfl (wl_nil ?_)
 rename_i b2
 refine zE (zA (zA (zB (wB 0 rfl rfl rfl ?_))))
 refine wl_call1 rfl rfl rfl rfl rfl rfl (by kernel_rfl) (fun W1 hp => great_gives W1 p cap rs 12 (by omega) (by omega) (hR.hp hp)) ?_
 refine wP rfl ?_
 by_cases hg : grt rs 12 = true
 ·refine wl_upd 21 (.bool true) rfl (congrArg Value.bool hg) ?_
  iterate 3 refine wl_skip rfl rfl ?_
  refine wP rfl (wl_nil (zE (zR rfl (zA (zB ?_)))))
  refine wl_call1 rfl rfl rfl rfl rfl rfl (by kernel_rfl) (fun W1 hp => awakeF_gives W1 (hv.hp hp) (ht.hp hp)) ?_
  refine wP rfl (wl_nil (zE (zO (zP ?_))))
  exact ne_ret1 tH rfl (.tmp rfl) () rfl trivial fun W _ => NewBx.nil _ _
 have hg : grt rs 12 = false := by simpa using hg
 refine wl_upd 21 (.bool false) rfl (congrArg Value.bool hg) ?_
 refine wB 0 rfl rfl rfl ?_
 refine wl_call1 rfl rfl rfl rfl rfl rfl (by kernel_rfl) (fun W1 hp => (checkR_gives W1 p cap rs (by omega) (by omega) (hR.hp hp)).cast (by rw [chkR_eq])) ?_
 refine wP rfl ?_
 by_cases hc : chk rs = 0
 rotate_left
 ·refine wl_upd 24 (.bool true) rfl (congrArg Value.bool (bne_iff_ne.2 hc)) ?_
  refine wP rfl (wl_nil (zE (zR rfl (zA (zB ?_)))))
  refine wl_call1 rfl rfl rfl rfl rfl rfl (by kernel_rfl) (fun W1 hp => awakeF_gives W1 (hv.hp hp) (ht.hp hp)) ?_
  refine wP rfl (wl_nil (zE (zO (zP ?_))))
  exact ne_ret1 tH rfl (.tmp rfl) () rfl trivial fun W _ => NewBx.nil _ _
 refine wl_upd 24 (.bool false) rfl (congrArg Value.bool (by rw [hc]; rfl)) ?_
 refine wP rfl (wl_nil (zE (zS rfl (zI (zE (zA (zB ?_)))))))
 obtain ⟨hne, hT24, hT0⟩ := chk_ne hc
 obtain ⟨hrg, hshp, _⟩ := chk_parts hc
 have eF := allF_len rs
 have eS : rs.flatten.length = tot rs := List.length_flatten
 refine wB 0 rfl rfl rfl ?_
 refine wl_call (X := Vec) rfl rfl rfl rfl rfl rfl (by kernel_rfl) (fun W1 hp => fAll_gives W1 p cap rs (by omega) (hR.hp hp) hc (hd.hp hp) (ht.hp hp)) ?_
 intro F hF
 have hF : F.OK 5 (allF rs).length (frC (allF rs)) := hF
 obtain ⟨gF, cF, hFv, hFr⟩ := Vec.frs hF (by omega)
 rw [hFv, eF]
 iterate 5 refine wP rfl ?_
 refine wl_nil (zE (zA (zB (wB 0 rfl rfl rfl ?_))))
 refine wl_call (X := Vec) rfl rfl rfl rfl rfl rfl (by kernel_rfl) (fun W1 hp => sides_ok W1 p cap rs (by omega) (hR.hp hp) hc) ?_
 intro S hS
 have hS : S.OK 7 rs.flatten.length (cellsOf rs.flatten) := hS
 obtain ⟨gS, cS, hSv, hSr⟩ := Vec.sds hS (by omega)
 rw [hSv, eS]
 iterate 5 refine wP rfl ?_
 refine wl_nil (zE (zA (zA (zB ?_))))
 iterate 12 refine wP rfl ?_
 refine wl_upd 48 (.bool false) rfl (congrArg Value.bool (by simp)) ?_
 iterate 5 refine wP rfl ?_
 refine wl_upd 53 (.bool false) rfl (congrArg Value.bool (decide_eq_false (by omega))) ?_
 refine wP rfl (wl_nil (zE (zS rfl (zI (zE (zA (zB ?_)))))))
 obtain ⟨m, hm⟩ : ∃ m, m = a % tot rs := ⟨_, rfl⟩
 have hmT : m < tot rs := by rw [hm]; exact Nat.mod_lt _ (by omega)
 obtain ⟨r, i, hr, hi, hmr⟩ := at_ex hmT
 obtain ⟨l, hle⟩ : ∃ l, l = rg rs r := ⟨_, rfl⟩
 have hll : l ∈ rs := by rw [hle]; exact List.mem_of_getElem? (rg_get hr)
 have hloc := loc_of hr hi
 have hs1 := tot_take_succ hr
 have hs2 := tot_take_le rs (r + 1)
 have hnl := nxt_lt hi
 have hpl := prv_lt hi
 have hfm := allF_at hr hi
 have hsm := flat_sd hr hi
 rw [← hle] at hnl
 have hsn := flat_sd hr (i := nxt l.length i) (by rw [← hle]; exact hnl)
 rw [← hmr, ← hle] at hfm hsm
 rw [← hle] at hi hs1 hpl hsn
 obtain ⟨u, hu⟩ : ∃ u, u = tot (rs.take r) + nxt l.length i := ⟨_, rfl⟩
 rw [← hu] at hsn
 have huT : u < tot rs := by omega
 have hrl := hrg l hll
 have hsl := hshp l hll
 obtain ⟨ax1, _⟩ := shp_sideL hrl hsl hi
 obtain ⟨f, hf⟩ : ∃ f, f = ringF l i := ⟨_, rfl⟩
 rw [← hf] at hfm
 have rI := hrl _ (List.mem_of_getElem? (sd_get hi))
 have rN := hrl _ (List.mem_of_getElem? (sd_get hnl))
 obtain ⟨s, hs⟩ : ∃ s, s = sd l i := ⟨_, rfl⟩
 obtain ⟨t, hte⟩ : ∃ t, t = sd l (nxt l.length i) := ⟨_, rfl⟩
 have hf' : f = frO s t := by rw [hf, hs, hte]; rfl
 rw [← hs, ← hte] at ax1
 have okf : f.OK := by rw [hf', hs]; exact frO_ok rI
 obtain ⟨hx, hy, _, _⟩ := rgd_parts rI
 obtain ⟨kx, ky, _, _⟩ := rgd_parts rN
 rw [← hs] at hx hy
 rw [← hte] at kx ky
 have r1 := sgnZ_rng (t.y - s.y)
 have r2 := sgnZ_rng (t.x - s.x)
 obtain ⟨X, hX⟩ : ∃ X, X = nrm (2 * (s.x + t.x) - sgnZ (t.y - s.y)) 4 := ⟨_, rfl⟩
 obtain ⟨Y, hY⟩ : ∃ Y, Y = nrm (2 * (s.y + t.y) + sgnZ (t.x - s.x)) 4 := ⟨_, rfl⟩
 have d1 : f.way (if f.ax then X else Y) = nrm 1 4 := by rw [hf', hX, hY]; exact inside_law ax1
 have zX : szQ X 36 := by rw [hX]; exact szQ.mono (k := 6) (nrm_num _ (by decide) (by show _ < 1000000; omega) (by decide)) (by decide)
 have zY : szQ Y 36 := by rw [hY]; exact szQ.mono (k := 6) (nrm_num _ (by decide) (by show _ < 1000000; omega) (by decide)) (by decide)
 have rowF : ∀ {W1 : World} {bxs : List Bx}, Hp W bxs W1 → ∀ k, nth bxs k = some (F.bx 39 (frC (allF rs))) → RowAt W1 gF (0 + m * 5) (frV f).cells.toList := fun hp k hk => hFr hp k hk m f hfm
 have rowS : ∀ {W1 : World} {bxs : List Bx}, Hp W bxs W1 → ∀ k, nth bxs k = some (S.bx 42 (cellsOf rs.flatten)) → RowAt W1 gS (0 + m * 7) s.cells := fun hp k hk => by
  have h := hSr hp k hk m (by omega)
  rw [hsm, ← hs] at h
  exact h
 have rowT : ∀ {W1 : World} {bxs : List Bx}, Hp W bxs W1 → ∀ k, nth bxs k = some (S.bx 42 (cellsOf rs.flatten)) → RowAt W1 gS (0 + u * 7) t.cells := fun hp k hk => by
  have h := hSr hp k hk u (by omega)
  rw [hsn, ← hte] at h
  exact h
 have hm64 : ((a : Int) % (tot rs : Int)) = (m : Int) := by rw [hm]; exact (Int.natCast_emod _ _).symm
 refine wP rfl ?_
 refine wl_cvA Tryz.underlying5 Tryz.underlying3 rfl rfl rfl rfl ?_
 refine wl_upd 56 (.int .i64 (a : Nat)) rfl (congrArg (Value.int .i64) (w64_nat (by omega))) ?_
 refine wP rfl (wP rfl ?_)
 refine wl_rem rfl rfl rfl rfl rfl (by omega) ?_
 refine wl_upd 59 (.int .i64 (m : Nat)) rfl (congrArg (Value.int .i64) (by rw [Int.tmod_eq_emod_of_nonneg (by omega)]; exact hm64)) ?_
 refine wP rfl (wl_nil (zE (zA (zB (wB 0 rfl rfl rfl (wP rfl ?_))))))
 refine wl_call1 rfl rfl rfl rfl rfl rfl (by kernel_rfl) (fun W1 hp => (neigh_ok W1 p cap rs (m : Nat) (by omega) (hR.hp hp) hc).cast (v' := .tuple #[.int .i64 (tot (rs.take r) + prv l.length i : Nat), .int .i64 (u : Nat), .int .i64 0]) (by rw [hu, hle]; unfold nbrV; rw [hmr, hloc])) ?_
 iterate 7 refine wP rfl ?_
 refine wl_nil (zE (zA (zA (zB ?_))))
 iterate 5 refine wP rfl ?_
 refine wl_upd 71 (.bool false) rfl (congrArg Value.bool (decide_eq_false (by omega))) ?_
 iterate 6 refine wP rfl ?_
 refine wl_upd 77 (.bool false) rfl (congrArg Value.bool (decide_eq_false (by omega))) ?_
 refine wP rfl (wl_nil (zE (zS rfl (zI (zE (zA ?_))))))
 refine zT Tryz.mixed (by kernel_rfl) ?_
 refine qP rfl (qP rfl ?_)
 refine qI rfl rfl (by omega) (by omega) ?_
 refine qP rfl ?_
 refine wq_load rfl rfl rfl rfl (fun W hp => RowAt.load 0 tH rfl ((fun W1 hp => rowT hp 2 rfl) W hp) rfl) ?_
 refine qP rfl (qP rfl ?_)
 refine qI rfl rfl (by omega) (by omega) ?_
 refine qP rfl ?_
 refine wq_load rfl rfl rfl rfl (fun W hp => RowAt.load 0 tH rfl ((fun W1 hp => rowS hp 2 rfl) W hp) rfl) ?_
 refine qP rfl ?_
 refine wq_upd 89 (.int .i64 (t.x - s.x)) rfl (congrArg (Value.int .i64) (w64_id (by omega) (by omega))) ?_
 refine qP rfl (qP rfl ?_)
 refine qI rfl rfl (by omega) (by omega) ?_
 refine qP rfl ?_
 refine wq_load rfl rfl rfl rfl (fun W hp => RowAt.load 1 tH rfl ((fun W1 hp => rowT hp 2 rfl) W hp) rfl) ?_
 refine qP rfl (qP rfl ?_)
 refine qI rfl rfl (by omega) (by omega) ?_
 refine qP rfl ?_
 refine wq_load rfl rfl rfl rfl (fun W hp => RowAt.load 1 tH rfl ((fun W1 hp => rowS hp 2 rfl) W hp) rfl) ?_
 refine qP rfl ?_
 refine wq_upd 100 (.int .i64 (t.y - s.y)) rfl (congrArg (Value.int .i64) (w64_id (by omega) (by omega))) ?_
 refine qP rfl (qP rfl (wq_nil (wl_nil (zE (zA (zB (wP rfl (wl_nil (zE (wc_seq ?_))))))))))
 refine wc_lateY (X := Nat) [true, true, true, true, true, true, true, true, true, true, true, true, true, true, true, true, true, true, true, true, true, true, true, true, true, true, true, true, true, true, true, true, true, true, true, false, false] (fun b => [(2, selfP b2), (5, .slice (some ⟨gF, 0, none⟩) (tot rs) cF), (9, .int .i64 (m : Nat)), (16, selfP b)]) (fun b => [⟨b2, 24, [slv p rs.length cap], true, none⟩, F.bx 39 (frC (allF rs)), S.bx 42 (cellsOf rs.flatten), ⟨b, 44, (ptV X Y).cells.toList, true, none⟩])
  2 [⟨b2, 24, [slv p rs.length cap], true, none⟩, F.bx 39 (frC (allF rs)), S.bx 42 (cellsOf rs.flatten)] Tryz.mixed (by kernel_rfl) ?_ ?_
 ·refine qP rfl (qP rfl ?_)
  refine qI rfl rfl (by omega) (by omega) ?_
  refine qP rfl ?_
  refine wq_load rfl rfl rfl rfl (fun W hp => RowAt.load 0 tH rfl ((fun W1 hp => rowS hp 2 rfl) W hp) rfl) ?_
  refine qP rfl (qP rfl ?_)
  refine qI rfl rfl (by omega) (by omega) ?_
  refine qP rfl ?_
  refine wq_load rfl rfl rfl rfl (fun W hp => RowAt.load 0 tH rfl ((fun W1 hp => rowT hp 2 rfl) W hp) rfl) ?_
  refine qP rfl ?_
  refine wq_upd 111 (.int .i64 (s.x + t.x)) rfl (congrArg (Value.int .i64) (w64_id (by omega) (by omega))) ?_
  refine qP rfl ?_
  refine wq_upd 112 (.int .i64 (2 * (s.x + t.x))) rfl (congrArg (Value.int .i64) (w64_id (by omega) (by omega))) ?_
  refine qP rfl (qP rfl ?_)
  refine wq_call1 (capt := []) rfl rfl rfl rfl rfl rfl (by kernel_rfl) (fun W1 _ => sign1_gives (t.y - s.y) W1) ?_
  refine qP rfl ?_
  refine wq_upd 116 (.int .i64 (2 * (s.x + t.x) - sgnZ (t.y - s.y))) rfl (congrArg (Value.int .i64) (w64_id (by omega) (by omega))) ?_
  refine wq_call1 rfl rfl rfl rfl rfl rfl (by kernel_rfl) (fun W1 hp => (lnum_gives (2 * (s.x + t.x) - sgnZ (t.y - s.y)) 4 (by decide) (by omega) (by decide) W1 (ht.hp hp)).cast (by rw [← hX])) ?_
  refine qP rfl (qP rfl ?_)
  refine qI rfl rfl (by omega) (by omega) ?_
  refine qP rfl ?_
  refine wq_load rfl rfl rfl rfl (fun W hp => RowAt.load 1 tH rfl ((fun W1 hp => rowS hp 2 rfl) W hp) rfl) ?_
  refine qP rfl (qP rfl ?_)
  refine qI rfl rfl (by omega) (by omega) ?_
  refine qP rfl ?_
  refine wq_load rfl rfl rfl rfl (fun W hp => RowAt.load 1 tH rfl ((fun W1 hp => rowT hp 2 rfl) W hp) rfl) ?_
  refine qP rfl ?_
  refine wq_upd 128 (.int .i64 (s.y + t.y)) rfl (congrArg (Value.int .i64) (w64_id (by omega) (by omega))) ?_
  refine qP rfl ?_
  refine wq_upd 129 (.int .i64 (2 * (s.y + t.y))) rfl (congrArg (Value.int .i64) (w64_id (by omega) (by omega))) ?_
  refine qP rfl (qP rfl ?_)
  refine wq_call1 (capt := []) rfl rfl rfl rfl rfl rfl (by kernel_rfl) (fun W1 _ => sign1_gives (t.x - s.x) W1) ?_
  refine qP rfl ?_
  refine wq_upd 133 (.int .i64 (2 * (s.y + t.y) + sgnZ (t.x - s.x))) rfl (congrArg (Value.int .i64) (w64_id (by omega) (by omega))) ?_
  refine wq_call1 rfl rfl rfl rfl rfl rfl (by kernel_rfl) (fun W1 hp => (lnum_gives (2 * (s.y + t.y) + sgnZ (t.x - s.x)) 4 (by decide) (by omega) (by decide) W1 (ht.hp hp)).cast (by rw [← hY])) ?_
  refine wq_buildZ Tryz.hZ tH rfl rfl rfl rfl rfl rfl rfl rfl ?_
  refine wq_wt ?_
  refine wt_step rfl rfl (by ((repeat (first | refine Weak.same ?_ | refine Weak.off rfl ?_)); exact trivial)) ?_
  refine RS.cons ?_ (RS.nil)
  refine wl_allocZ Tryz.hZ rfl rfl rfl rfl ?_; intro b
  refine wl_nil (ne_wt ?_)
  refine wt_step rfl rfl (by ((repeat (first | refine Weak.same ?_ | refine Weak.off rfl ?_)); exact trivial)) ?_
  refine RS.cons ?_ (RS.nil)
  refine wS 3 rfl rfl rfl (wl_nil (ne_wt ?_))
  refine wt_done rfl (by ((repeat (first | refine Weak.same ?_ | refine Weak.off rfl ?_)); exact trivial)) ?_
  exact ne_late b ⟨rfl, rfl, rfl, rfl, trivial⟩ [0, 1, 2, 3] (by decide) rfl
 intro b16
 refine zE (zA ?_)
 refine zT Tryz.mixed (by kernel_rfl) ?_
 refine qP rfl (qP rfl ?_)
 refine qI rfl rfl (by omega) (by omega) ?_
 refine wq_load rfl rfl rfl rfl (fun W hp => RowAt.load 0 tH rfl ((fun W1 hp => rowF hp 1 rfl) W hp) rfl) ?_
 refine qB 3 rfl rfl rfl ?_
 refine wq_call1 rfl rfl rfl rfl rfl rfl (by kernel_rfl) (fun W1 hp => (fDist_gives f okf X Y zX zY W1 (hv.hp hp) (ht.hp hp)).cast (by rw [d1])) ?_
 iterate 5 refine qP rfl ?_
 refine wq_nil (wl_nil (zE (zA (zB ?_))))
 iterate 5 refine wP rfl ?_
 refine wl_upd 149 (.bool true) rfl (congrArg Value.bool ((strEqB _ _).trans (decide_eq_true (by kernel_rfl)))) ?_
 refine wP rfl (wP rfl ?_)
 refine wl_call1 rfl rfl rfl rfl rfl rfl (by kernel_rfl) (fun W1 hp => awakeF_gives W1 (hv.hp hp) (ht.hp hp)) ?_
 refine wP rfl (wP rfl (wl_nil (zE (zO ?_))))
 exact ne_ret1 tH rfl (.tmp rfl) () rfl trivial fun W _ => NewBx.nil _ _
end Go.Proofs.YtlagebbefnnnnaaGreatDoor
namespace Go.Proofs.YtlagebbefnnnnaaGreatDoor
open Go Go.RowKit Go.Am Go.ChangeShapes Go.WideShapes Go.Deep
set_option maxRecDepth 10000
theorem c42 : Tryz.prog.cellsOf 42 = 7 := by kernel_rfl
theorem c27 : Tryz.prog.cellsOf 32 = 1 := by kernel_rfl
theorem c24 : Tryz.prog.cellsOf 24 = 1 := by kernel_rfl
theorem c22 : Tryz.prog.cellsOf 22 = 1 := by kernel_rfl
theorem c3 : Tryz.prog.cellsOf 3 = 1 := by kernel_rfl
theorem c4 : Tryz.prog.cellsOf 4 = 1 := by kernel_rfl
theorem bulk_one {H : Type} (d : DataW H) : 1 ≤ Rows.uptoBulk d := by
 cases d with
 | lit l => cases l <;> simp [Rows.uptoBulk]
 | nil => simp [Rows.uptoBulk]
 | ptr d => simp [Rows.uptoBulk]
 | slice elems spare => simp [Rows.uptoBulk]
 | agg parts => simp [Rows.uptoBulk]
 | iface t d => simp [Rows.uptoBulk]
 | map entries => simp [Rows.uptoBulk]
 | held h => simp [Rows.uptoBulk]
theorem bulk_len {H : Type} (l : List (DataW H)) : l.length ≤ Rows.uptoBulkAll l := by
 induction l with
 | nil => simp [Rows.uptoBulkAll]
 | cons x r ih => have := bulk_one x; simp only [Rows.uptoBulkAll, List.length_cons]; omega
theorem bulk_sum {H : Type} {A : Type} (L : A → Nat) (D : A → DataW H) (is : List A) (h : ∀ i, i ∈ is → L i + 1 ≤ Rows.uptoBulk (D i)) :
  (is.map L).sum + is.length ≤ Rows.uptoBulkAll (is.map D) := by
 induction is with
 | nil => simp [Rows.uptoBulkAll]
 | cons x r ih =>
  have h1 := h x (.head _)
  have h2 := ih fun i hi => h i (.tail _ hi)
  simp only [List.map_cons, List.sum_cons, List.length_cons, Rows.uptoBulkAll]
  omega
theorem bulk_slice {H : Type} (e s : List (DataW H)) : Rows.uptoBulkAll e + 1 ≤ Rows.uptoBulk (.slice e s) := by
 simp only [Rows.uptoBulk]; omega
theorem cell_plain {w : World} {a : Addr} {v : Value} (h : w.cell? a = some v) : a.spot = none ∧ a.block < w.heap.size := by
 unfold World.cell? at h
 split at h
 ·rename_i hb
  refine ⟨?_, ?_⟩
  ·cases hs : a.spot with
   | none => rfl
   | some k => simp [hs] at h
  ·exact (Array.getElem?_eq_some_iff.1 hb).1
 ·cases h
theorem open_row {w : World} {base n : Nat} {a : Addr} {cs : List Value} (h : w.cells? base a n = some cs) (hn : 0 < n) : a.spot = none ∧ RowAt w a.block a.off cs := by
 obtain ⟨_, hl, hg⟩ := World.cells?_some h
 have h0 := hg 0 hn
 have hv : cs[0]? = some cs[0] := List.getElem?_eq_getElem (by omega)
 rw [hv] at h0
 have hp := cell_plain h0
 have hs : a.spot = none := by simpa [Addr.add] using hp.1
 refine ⟨hs, ⟨by simpa [Addr.add] using hp.2, fun j x hx => ?_⟩⟩
 have hj : j < n := by rw [← hl]; exact (List.getElem?_eq_some_iff.1 hx).1
 rw [← hx, ← hg j hj]
 congr 1
 unfold Addr.add
 split
 ·subst_vars; cases a; simp_all
 ·rfl
theorem add_off {a : Addr} (hs : a.spot = none) (n : Nat) : a.add n = ⟨a.block, a.off + n, none⟩ := by
 unfold Addr.add
 split
 ·subst_vars; cases a; simp_all
 ·rfl
def Sd.in64 (s : Sd) : Prop := ∀ z ∈ [s.x, s.y, s.rise, s.run, s.plate, s.over], -9223372036854775808 ≤ z ∧ z ≤ 9223372036854775807
section
variable {H : Type} {enc : TypeId × Value → H} {w : World} {base : Nat} {spare : Nat → Bool} {held : Bool} {fuel : Nat} {cs : List Value} {x : DataW H × List MemPlace}
theorem open_sd (h : DataW.trod enc Tryz.prog w base spare held fuel 42 cs = some x) : ∃ s : Sd, cs = s.cells ∧ s.in64 := by
 obtain ⟨xs, m, rfl, rfl, hl, hx, hf⟩ := DataW.trod_struct Tryz.underlying42 h
 rw [c42] at hl
 have g : ∀ (i : Nat) (o t : Nat) (f : Field), (match Tryz.prog.underlying 42 with | some (.struct fs) => fs[i]? | _ => none) = some f → f.offset = o → f.type = t →
   ∃ y, DataW.trod enc Tryz.prog w base spare held m t ((cs.drop o).take (Tryz.prog.cellsOf t)) = some y := by
  intro i o t f hi ho ht
  rw [Tryz.underlying42] at hi
  subst ho; subst ht
  have h1 := hf i f hi
  have h2 : i < xs.length := by rw [hx]; exact (Array.getElem?_eq_some_iff.1 hi).1
  rw [List.getElem?_eq_getElem h2] at h1
  exact ⟨_, h1⟩
 match cs, hl with
 | [v0, v1, v2, v3, v4, v5, v6], _ =>
  have gi : ∀ (i o : Nat) (f : Field) (v : Value), (match Tryz.prog.underlying 42 with | some (.struct fs) => fs[i]? | _ => none) = some f → f.offset = o → f.type = 3 → ([v0, v1, v2, v3, v4, v5, v6].drop o).take 1 = [v] →
    ∃ z, v = .int .i64 z ∧ -9223372036854775808 ≤ z ∧ z ≤ 9223372036854775807 := by
   intro i o f v h1 h2 h3 h4
   obtain ⟨y, hy⟩ := g i o 3 f h1 h2 h3
   rw [c3, h4] at hy
   obtain ⟨z, e1, _, hw⟩ := DataW.trod_int Tryz.underlying3 hy
   refine ⟨z, by simpa using e1, ?_⟩
   simpa [Lit.wf, IntKind.min, IntKind.max, IntKind.signed, IntKind.bits] using hw
  obtain ⟨z0, rfl, b0⟩ := gi 0 0 _ v0 (by rw [Tryz.underlying42]; rfl) rfl rfl rfl
  obtain ⟨z1, rfl, b1⟩ := gi 1 1 _ v1 (by rw [Tryz.underlying42]; rfl) rfl rfl rfl
  obtain ⟨z2, rfl, b2⟩ := gi 2 2 _ v2 (by rw [Tryz.underlying42]; rfl) rfl rfl rfl
  obtain ⟨z3, rfl, b3⟩ := gi 3 3 _ v3 (by rw [Tryz.underlying42]; rfl) rfl rfl rfl
  obtain ⟨z5, rfl, b5⟩ := gi 5 5 _ v5 (by rw [Tryz.underlying42]; rfl) rfl rfl rfl
  obtain ⟨z6, rfl, b6⟩ := gi 6 6 _ v6 (by rw [Tryz.underlying42]; rfl) rfl rfl rfl
  obtain ⟨y4, hy4⟩ := g 4 4 4 _ (by rw [Tryz.underlying42]; rfl) rfl rfl
  rw [c4] at hy4
  obtain ⟨z4, e4, _⟩ := DataW.trod_bool Tryz.underlying4 hy4
  obtain rfl : v4 = .bool z4 := by simpa using e4
  refine ⟨⟨z0, z1, z2, z3, z4, z5, z6⟩, rfl, ?_⟩
  intro z hz
  simp only [List.mem_cons, List.not_mem_nil, or_false] at hz
  rcases hz with rfl | rfl | rfl | rfl | rfl | rfl <;> assumption
theorem open_ring (h : DataW.trod enc Tryz.prog w base spare held fuel 32 cs = some x) :
  ∃ (p : Option Addr) (cap : Nat) (l : List Sd), cs = [slv p l.length cap] ∧ RingP w p l ∧ (∀ s ∈ l, s.in64) ∧ l.length + 1 ≤ Rows.uptoBulk x.1 := by
 rcases open_slice Tryz.underlying32 h with ⟨rfl, rfl⟩ | ⟨a, len, cap, m, n, D, Pl, rfl, _, hl, _, hm, rfl, hx⟩
 ·exact ⟨none, 0, [], rfl, .inl rfl, (fun _ hs => by cases hs), bulk_one _⟩
 have hlm : len ≤ m := by rw [hm]; split <;> omega
 obtain ⟨S, hS⟩ := choose_lt (α := Sd) (n := len) (p := fun i s => w.cells? base (a.add (i * 7)) 7 = some s.cells ∧ s.in64) fun i hi => by
  obtain ⟨cs', h1, h2⟩ := hx i (by omega)
  rw [c42] at h1
  obtain ⟨s, rfl, h3⟩ := open_sd h2
  exact ⟨s, h1, h3⟩
 refine ⟨some a, cap, (List.range len).map S, by simp, ?_, ?_, ?_⟩
 ·by_cases h0 : len = 0
  ·subst h0; exact .inl rfl
  ·have hs : a.spot = none := by simpa [Addr.add] using (open_row (hS 0 (by omega)).1 (by decide)).1
   refine .inr ⟨a.block, a.off, by cases a; simp_all, ⟨fun i s hi => ?_⟩⟩
   simp only [List.getElem?_map, Option.map_eq_some_iff] at hi
   obtain ⟨k, hk, rfl⟩ := hi
   have hk' : i < len ∧ k = i := by
    have := List.getElem?_eq_some_iff.1 hk
    obtain ⟨h1, h2⟩ := this
    simp at h1 h2
    exact ⟨h1, h2.symm⟩
   obtain ⟨h1, rfl⟩ := hk'
   have := (open_row (hS k h1).1 (by decide)).2
   rwa [add_off hs] at this
 ·intro s hs
  simp only [List.mem_map, List.mem_range] at hs
  obtain ⟨i, hi, rfl⟩ := hs
  exact (hS i hi).2
 ·have h1 := bulk_len ((List.range len).map D)
  have h2 := bulk_slice ((List.range len).map D) ((List.range (m - len)).map fun j => D (len + j))
  simp only [List.length_map, List.length_range] at h1 ⊢
  omega
theorem open_rings (h : DataW.trod enc Tryz.prog w base spare held fuel 22 cs = some x) :
  ∃ (p : Option Addr) (cap : Nat) (rs : List (List Sd)), cs = [slv p rs.length cap] ∧ RingsP w p rs ∧ (∀ l ∈ rs, ∀ s ∈ l, s.in64) ∧ tot rs + rs.length + 1 ≤ Rows.uptoBulk x.1 := by
 rcases open_slice Tryz.underlying22 h with ⟨rfl, rfl⟩ | ⟨a, len, cap, m, n, D, Pl, rfl, _, hl, _, hm, rfl, hx⟩
 ·exact ⟨none, 0, [], rfl, .inl rfl, (fun _ hs => by cases hs), bulk_one _⟩
 have hlm : len ≤ m := by rw [hm]; split <;> omega
 obtain ⟨L, hL⟩ := choose_lt (α := List Sd) (n := len) (p := fun i l => ∃ q c, w.cells? base (a.add (i * 1)) 1 = some [slv q l.length c] ∧ RingP w q l ∧ (∀ s ∈ l, s.in64) ∧ l.length + 1 ≤ Rows.uptoBulk (D i)) fun i hi => by
  obtain ⟨cs', h1, h2⟩ := hx i (by omega)
  rw [c27] at h1
  obtain ⟨q, c, l, rfl, h3, h4, h5⟩ := open_ring h2
  exact ⟨l, q, c, h1, h3, h4, h5⟩
 refine ⟨some a, cap, (List.range len).map L, by simp, ?_, ?_, ?_⟩
 ·by_cases h0 : len = 0
  ·subst h0; exact .inl rfl
  ·obtain ⟨q0, c0, h00, _⟩ := hL 0 (by omega)
   have hs : a.spot = none := by simpa [Addr.add] using (open_row h00 (by decide)).1
   refine .inr ⟨a.block, a.off, by cases a; simp_all, ⟨fun i l hi => ?_⟩⟩
   simp only [List.getElem?_map, Option.map_eq_some_iff] at hi
   obtain ⟨k, hk, rfl⟩ := hi
   have hk' : i < len ∧ k = i := by
    obtain ⟨h1, h2⟩ := List.getElem?_eq_some_iff.1 hk
    simp at h1 h2
    exact ⟨h1, h2.symm⟩
   obtain ⟨h1, rfl⟩ := hk'
   obtain ⟨q, c, h2, h3, _⟩ := hL k h1
   have := (open_row h2 (by decide)).2
   rw [add_off hs] at this
   exact ⟨q, c, this, h3⟩
 ·intro l hl'
  simp only [List.mem_map, List.mem_range] at hl'
  obtain ⟨i, hi, rfl⟩ := hl'
  obtain ⟨_, _, _, _, h3, _⟩ := hL i hi
  exact h3
 ·have h1 := bulk_sum (fun i => (L i).length) D (List.range len) fun i hi => by
   obtain ⟨_, _, _, _, _, h3⟩ := hL i (by simpa using hi)
   exact h3
  have h2 := bulk_slice ((List.range len).map D) ((List.range (m - len)).map fun j => D (len + j))
  simp only [tot, List.map_map, List.length_map, List.length_range] at h1 ⊢
  have h3 : (List.range len).map (List.length ∘ L) = (List.range len).map fun i => (L i).length := rfl
  rw [h3]
  show _ ≤ Rows.uptoBulk (DataW.slice _ _)
  omega
end
section
variable {H : Type} {enc : TypeId × Value → H} {w : World} {base : Nat} {spare : Nat → Bool} {held : Bool} {v : Value} {d : DataW H} {ps : List MemPlace}
theorem open_plan {r : Reach} {b0 : Nat} (hv : Value.okWide Tryz.prog w r b0 24 v) (h : DataW.Trod enc Tryz.prog w base spare held 24 v d ps) :
  ∃ (p : Option Addr) (cap : Nat) (rs : List (List Sd)), v = planV p rs.length cap ∧ RingsP w p rs ∧ (∀ l ∈ rs, ∀ s ∈ l, s.in64) ∧ tot rs + rs.length + 2 ≤ Rows.uptoBulk d := by
 obtain ⟨cs, rfl, hc⟩ := okWide_struct Tryz.underlying24 hv
 obtain ⟨fuel, hf⟩ := h
 obtain ⟨xs, m, rfl, hx, hl, hn, hg⟩ := DataW.trod_struct Tryz.underlying24 hf
 rw [c24] at hc
 obtain ⟨y0, rfl⟩ : ∃ y, xs = [y] := by
  match xs, hn with
  | [y], _ => exact ⟨y, rfl⟩
 have h0 : DataW.trod enc Tryz.prog w base spare held m 22 (List.take (Tryz.prog.cellsOf 22) (List.drop 0 cs.toList)) = some y0 := hg 0 _ rfl
 rw [c22] at h0
 obtain ⟨c0, rfl⟩ : ∃ c, cs = #[c] := by
  obtain ⟨l⟩ := cs
  match l, hc with
  | [c], _ => exact ⟨c, rfl⟩
 obtain ⟨p, cap, rs, e1, e2, e3, e4⟩ := open_rings h0
 simp only [Prod.mk.injEq] at hx
 obtain ⟨rfl, _⟩ := hx
 refine ⟨p, cap, rs, ?_, e2, e3, ?_⟩
 ·have : c0 = slv p rs.length cap := by simpa [Value.cells] using e1
  rw [this]
 ·simp only [List.map_cons, List.map_nil, Rows.uptoBulk, Rows.uptoBulkAll]
  have : y0.1 = (y0 : DataW H × List MemPlace).1 := rfl
  omega
end
end Go.Proofs.YtlagebbefnnnnaaGreatDoor
namespace Go.Proofs.YtlagebbefnnnnaaGreatDoor
open Go
noncomputable abbrev laidL : List (String × DataW Unit) := Rows.frontCornersRow.laid
end Go.Proofs.YtlagebbefnnnnaaGreatDoor
namespace Go.Proofs.YtlagebbefnnnnaaGreatDoor
open Go Go.RowKit Go.Am Go.ChangeShapes Go.WideShapes Go.Deep Go.ChangeAt
set_option maxRecDepth 100000
section
variable {H : Type} {enc : TypeId × Value → H} {w : World} {base : Nat} {spare : Nat → Bool} {held : Bool} {v : Value} {d : DataW H} {ps : List MemPlace}
end
theorem own : ownKnob Tryz.prog.godebug = none := by kernel_rfl
theorem laidOut : laidOutB Tryz.prog = true := by kernel_rfl
theorem laid_plain : (laidL.all fun x => x.2.handleName?.isNone) = true := by kernel_rfl
theorem tab_of_laid {W : World} (h : laidMetH Tryz.prog laidL W) : TabP W := by
 rw [MakeChecks.laidMetH_plain _ _ _ laid_plain] at h
 exact Lib.tabIs_of_head (g := 1) (t := 318) (e := 263) (n := 20) (by kernel_rfl) (by kernel_rfl) (by kernel_rfl) (by kernel_rfl) (by kernel_rfl) (by kernel_rfl) h.tail.tail
theorem max_of {W : World} (hS : W.ShapedOpen Tryz.prog) : MaxP W :=
 cell_of_shapedOpen_int (g := 6) (t := 3) (zero := #[.int .i64 0]) hS (of_decide_eq_true (by kernel_rfl)) (by kernel_rfl) rfl (by kernel_rfl) (by kernel_rfl) Tryz.underlying3
noncomputable def witW (os : Os) : World := World.laidAll Tryz.prog os laidL
theorem wit_laid (os : Os) (args : Array Value) : laidMetH Tryz.prog laidL ((witW os).forCall (fun _ _ => 0) ⟨#[], args, []⟩).memory := by
 rw [MakeChecks.laidMetH_plain _ _ _ laid_plain]
 exact laidMet_laidAll _ (by kernel_rfl) (by kernel_rfl)
theorem wit_shaped (os : Os) (args : Array Value) : ((witW os).forCall (fun _ _ => 0) ⟨#[], args, []⟩).Shaped Tryz.prog :=
 World.shaped_of_ZipB (by kernel_rfl) (by kernel_rfl)
theorem wit_row {H : Type} {enc : TypeId × Value → H} (os : Os) {f : FuncId} {fn : Func} {s : OpenSpec} {conds : List PathCond} (args : Array Value)
  (hok : Input.okWideB Tryz.prog ((witW os).forCall (fun _ _ => 0) ⟨#[], args, []⟩) f ⟨#[], args, []⟩ = true)
  (hrow : s.preRow enc Tryz.prog fn conds false laidL ((witW os).forCall (fun _ _ => 0) ⟨#[], args, []⟩).memory args) :
  ∃ (w : World) (tape : Tape) (i : Input), w.os = os ∧ (w.forCall tape i).Shaped Tryz.prog ∧ i.vars = [] ∧ Input.okWide Tryz.prog (w.forCall tape i) .any w.heap.size f i ∧
   s.preRow enc Tryz.prog fn conds false laidL (w.forCall tape i).memory i.args ∧ ({} : Assume).holds Tryz.prog (lone (Frame.enter Tryz.prog f i.args .normal) [] (w.forCall tape i)) :=
 ⟨witW os, fun _ _ => 0, ⟨#[], args, []⟩, World.laidAll_os _ _ _, wit_shaped os args, (Input.okWide_of_okWideB (base := 0) hok).1, (Input.okWide_of_okWideB hok).2, hrow, by
  simp only [Assume.holds]
  exact ⟨by simp, by simp, by simp, by simp, by simp, by simp⟩⟩
theorem cDir : Tryz.prog.cellsOf 176 = 2 := by kernel_rfl
theorem cDirs : Tryz.prog.cellsOf 177 = 8 := by kernel_rfl
theorem cBool : Tryz.prog.cellsOf 4 = 1 := by kernel_rfl
theorem cInt : Tryz.prog.cellsOf 3 = 1 := by kernel_rfl
section
variable {H : Type} {enc : TypeId × Value → H} {w : World} {base : Nat} {spare : Nat → Bool} {held : Bool} {fuel : Nat} {cs : List Value} {x : DataW H × List MemPlace}
theorem open_dir (h : DataW.trod enc Tryz.prog w base spare held fuel 176 cs = some x) : ∃ (b : Bool) (z : Int), cs = [.bool b, .int .i64 z] ∧ x.1 = .agg [.lit (.bool b), .lit (.int .i64 z)] := by
 obtain ⟨xs, m, rfl, rfl, hl, hn, hg⟩ := DataW.trod_struct Tryz.underlying176 h
 rw [cDir] at hl
 match cs, hl with
 | [u, v], _ =>
  match xs, hn with
  | [y0, y1], _ =>
   have h0 : DataW.trod enc Tryz.prog w base spare held m 4 (([u, v].drop 0).take (Tryz.prog.cellsOf 4)) = some y0 := hg 0 _ rfl
   have h1 : DataW.trod enc Tryz.prog w base spare held m 3 (([u, v].drop 1).take (Tryz.prog.cellsOf 3)) = some y1 := hg 1 _ rfl
   rw [cBool] at h0
   rw [cInt] at h1
   obtain ⟨b, e0, f0⟩ := DataW.trod_bool Tryz.underlying4 h0
   obtain ⟨z, e1, f1, _⟩ := DataW.trod_int Tryz.underlying3 h1
   refine ⟨b, z, ?_, ?_⟩
   ·have a0 : u = .bool b := by simpa using e0
    have a1 : v = .int .i64 z := by simpa using e1
    rw [a0, a1]
   ·simp [f0, f1]
theorem open_dirs (h : DataW.trod enc Tryz.prog w base spare held fuel 177 cs = some x) (hx : x.1 = .agg [.agg [.lit (.bool false), .lit (.int .i64 1)], .agg [.lit (.bool true), .lit (.int .i64 (-1))], .agg [.lit (.bool false), .lit (.int .i64 (-1))], .agg [.lit (.bool true), .lit (.int .i64 1)]]) : cs = dirC := by
 obtain ⟨xs, m, rfl, rfl, hl, hn, hg⟩ := DataW.trod_array Tryz.underlying177 h
 rw [cDirs] at hl
 match cs, hl with
 | [a0, a1, a2, a3, a4, a5, a6, a7], _ =>
  match xs, hn with
  | [y0, y1, y2, y3], _ =>
   have h0 := hg 0 (by decide)
   have h1 := hg 1 (by decide)
   have h2 := hg 2 (by decide)
   have h3 := hg 3 (by decide)
   rw [cDir] at h0 h1 h2 h3
   obtain ⟨b0, z0, e0, f0⟩ := open_dir (x := y0) h0
   obtain ⟨b1, z1, e1, f1⟩ := open_dir (x := y1) h1
   obtain ⟨b2, z2, e2, f2⟩ := open_dir (x := y2) h2
   obtain ⟨b3, z3, e3, f3⟩ := open_dir (x := y3) h3
   simp only [List.map_cons, List.map_nil, f0, f1, f2, f3, DataW.agg.injEq, List.cons.injEq, DataW.lit.injEq, Lit.bool.injEq, Lit.int.injEq, true_and, and_true] at hx
   obtain ⟨⟨rfl, rfl⟩, ⟨rfl, rfl⟩, ⟨rfl, rfl⟩, ⟨rfl, rfl⟩⟩ := hx
   simp at e0 e1 e2 e3
   obtain ⟨rfl, rfl⟩ := e0
   obtain ⟨rfl, rfl⟩ := e1
   obtain ⟨rfl, rfl⟩ := e2
   obtain ⟨rfl, rfl⟩ := e3
   rfl
end
theorem dir_of_laid {W : World} (h : laidMetH Tryz.prog laidL W) : DirP W := by
 rw [MakeChecks.laidMetH_plain _ _ _ laid_plain] at h
 obtain ⟨ps, ⟨g', t', cs, fuel, p, q, hg', ht', hvar, hd, _, _⟩, _⟩ := h.tail.tail.tail.tail.tail.tail
 obtain rfl := Option.some.inj ((show Tryz.prog.globalNamed "kingpost/front.directions" = some 0 by kernel_rfl).symm.trans hg')
 obtain rfl := Option.some.inj ((show (Tryz.prog.globals[0]?).map (·.type) = some 177 by kernel_rfl).symm.trans ht')
 have e := open_dirs hd rfl
 have hc : ∀ i u, dirC[i]? = some u → W.cell? ⟨0, i, none⟩ = some u := fun i u hu => by
  rw [World.var?_cell hg' hvar i]
  rw [← e] at hu
  simpa using hu
 refine ⟨?_, fun m u hu => ?_⟩
 ·obtain ⟨c, ty, fr, h1, _⟩ := Sort.cells_of_cell? (hc 0 _ rfl)
  exact (Array.getElem?_eq_some_iff.1 h1).1
 ·rw [Nat.zero_add]
  exact hc m u hu
end Go.Proofs.YtlagebbefnnnnaaGreatDoor
