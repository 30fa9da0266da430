/-
  Sides compared; are two plans the same.
-/
import Derived.Test.YtnpfkmbcejgnjaaGreatDoorGreat
import Derived.Laws.StructEq
namespace Go.Proofs.YtnpfkmbcejgnjaaGreatDoor
open Go Go.RowKit Go.Am
set_option maxRecDepth 10000
-- BOXES 3
theorem sd_ext {s t : Sd} (h1 : s.x = t.x) (h2 : s.y = t.y) (h3 : s.rise = t.rise) (h4 : s.run = t.run) (h5 : s.gable = t.gable) (h6 : s.plate = t.plate) (h7 : s.over = t.over) : s = t := by
  cases s; cases t; simp at *; exact ⟨h1, h2, h3, h4, h5, h6, h7⟩
theorem sd_equal (s t : Sd) (w : World) : (Op.equalIn 10000 42 s.val t.val).run Tryz.prog w = .ok (decide (s = t)) w := by
  have u3 := Tryz.underlying3
  have a3 := Tryz.isAgg3
  have z3 := Tryz.sizeOf3
  have u4 := Tryz.underlying4
  have a4 := Tryz.isAgg4
  have z4 := Tryz.sizeOf4
  have hS : Tryz.prog.underlying 42 = some (.struct (Tryz.prog.fieldsOf 42)) := by kernel_rfl
  have hp : Tryz.prog.stoodInHeld 42 = false := by kernel_rfl
  rw [show (10000 : Nat) = 9999 + 1 from rfl, run_equalIn_agg w 9999 42 _ _ hS hp]
  simp only [Program.fieldsOf, Tryz.underlying42]
  go_simp
  by_cases h1 : s.x = t.x <;> by_cases h2 : s.y = t.y <;> by_cases h3 : s.rise = t.rise <;> by_cases h4 : s.run = t.run <;> by_cases h5 : s.gable = t.gable <;> by_cases h6 : s.plate = t.plate <;> by_cases h7 : s.over = t.over <;>
    first
    | (have e : s = t := sd_ext h1 h2 h3 h4 h5 h6 h7; subst e; simp; done)
    | (have e : s ≠ t := fun e => by subst e; simp at *; done
       simp [h1, h2, h3, h4, h5, h6, h7, e])
section
variable {r : Option Nat} {n : Nat} {W0 : World} {N : Nat} {D : List Deferred} {ops tail : List Oper} {Q : Exit → Act → World → Prop} {o : Oper} {rest : List Oper} {env : Env} {A A2 : World → Prop} {R : Act → World → Prop}
theorem neqSd_run {ρ : Operand → Value} {x y : Operand} {u : TypeId} {s t : Sd} (ho : o.op = .binOp .neq 42 x y u) (hx : ρ x = s.val) (hy : ρ y = t.val) (W : World) : (execOp ρ o).run Tryz.prog W = .ok (.value (.bool (!decide (s = t)))) W := by
  have hg := run_eqGuard_agg (P := Tryz.prog) W .neq 42 x y #[.int .i64 s.x, .int .i64 s.y, .int .i64 s.rise, .int .i64 s.run, .bool s.gable, .int .i64 s.plate, .int .i64 s.over] #[.int .i64 t.x, .int .i64 t.y, .int .i64 t.rise, .int .i64 t.run, .bool t.gable, .int .i64 t.plate, .int .i64 t.over] (by kernel_rfl)
  have he := sd_equal s t W
  simp only [execOp, ho, hx, hy, Sem.run_bind, hg, Result.andThen_ok, run_neq_struct, he, Sem.run_pure]
theorem wq_neqSd {d : Nat} {x y : Operand} {u : TypeId} {s t : Sd} (hg : guardE ops N env o = some true) (hd : o.dst = some d) (ho : o.op = .binOp .neq 42 x y u) (hx : evO N env x = some s.val) (hy : evO N env y = some t.val)
    (h : WQ Tryz.prog N D ops A2 R rest ((d, .bool (!decide (s = t))) :: env) A) : WQ Tryz.prog N D ops A2 R (o :: rest) env A :=
  wq_val hg hd (fun c e => by rw [ho] at e; cases e) (fun _ W hρ _ => neqSd_run ho (hρ _ _ hx) (hρ _ _ hy) W) h
theorem wl_neqSd {d : Nat} {x y : Operand} {u : TypeId} {s t : Sd} (hg : guardE ops N env o = some true) (hd : o.dst = some d) (ho : o.op = .binOp .neq 42 x y u) (hx : evO N env x = some s.val) (hy : evO N env y = some t.val)
    (h : WL r n Tryz.prog N D ops Q rest ((d, .bool (!decide (s = t))) :: env) A) : WL r n Tryz.prog N D ops Q (o :: rest) env A :=
  wl_val hg hd (fun c e => by rw [ho] at e; cases e) (fun _ W hρ _ => neqSd_run ho (hρ _ _ hx) (hρ _ _ hy) W) h
end
theorem rs_ext {rs rs' : List (List Sd)} (h : rs.length = rs'.length) (hr : ∀ k, k < rs.length → rg rs k = rg rs' k) : rs = rs' := by
  apply List.ext_getElem h
  intro i h1 h2
  have := hr i h1
  simpa [rg, h1, h2] using this
theorem sd_list_ext {l l' : List Sd} (h : l.length = l'.length) (hr : ∀ k, k < l.length → sd l k = sd l' k) : l = l' := by
  apply List.ext_getElem h
  intro i h1 h2
  have := hr i h1
  simpa [sd, h1, h2] using this
set_option maxHeartbeats 4000000 in
theorem same_gives (W : World) (p p' : Option Addr) (cap cap' : Nat) (rs rs' : List (List Sd)) (hn : rs.length < 4611686018427387904) (hl : ∀ l ∈ rs, l.length < 4611686018427387904) (hR : RingsP W p rs) (hR' : RingsP W p' rs') :
    CallsR Tryz.prog 27 #[planV p rs.length cap, planV p' rs'.length cap'] W (fun _ : Unit => .bool (decide (rs = rs'))) (fun _ => True) (fun _ => []) := by
  refine calls_enter (args := [planV p rs.length cap, planV p' rs'.length cap']) Tryz.func27 rfl rfl rfl ?_
  refine zA ?_
  refine zB ?_
  (refine wl_box rfl rfl rfl rfl ?_; intro)
  (refine wl_box rfl rfl rfl rfl ?_; intro)
  refine wl_pure Tryz.hT rfl rfl rfl ?_
  refine wl_nil ?_
  rename_i b2 b3
  refine zE ?_
  refine zA ?_
  refine zA ?_
  refine zB ?_
  refine wl_pure Tryz.hT rfl rfl rfl ?_
  refine wl_loadBx 0 Tryz.hT rfl rfl rfl rfl rfl rfl rfl rfl ?_
  refine wl_pure Tryz.hT rfl rfl rfl ?_
  refine wl_pure Tryz.hT rfl rfl rfl ?_
  refine wl_loadBx 1 Tryz.hT rfl rfl rfl rfl rfl rfl rfl rfl ?_
  refine wl_pure Tryz.hT rfl rfl rfl ?_
  refine wl_pure Tryz.hT rfl rfl rfl ?_
  refine wl_nil ?_
  refine zE ?_
  refine wc_cond rfl (fun h => ?_) (fun h => ?_)
  · refine zA ?_
    refine zB ?_
    refine wl_pure Tryz.hT rfl rfl rfl ?_
    refine wl_nil ?_
    refine zE ?_
    refine zO ?_
    refine zP ?_
    have hne : ¬ rs = rs' := fun e => by
      have h' : (((rs.length : Nat) : Int) != ((rs'.length : Nat) : Int)) = true := h
      rw [e] at h'; simp at h'
    exact ne_ret1 Tryz.hT rfl (.tmp rfl) () (by rw [decide_eq_false hne]) trivial fun W _ => NewBx.nil _ _
  have hlen : rs.length = rs'.length := by
    have h' : (((rs.length : Nat) : Int) != ((rs'.length : Nat) : Int)) = false := h
    simp at h'; omega
  clear h
  refine zI ?_
  refine zE ?_
  refine zA ?_
  refine zA ?_
  refine zB ?_
  refine wl_pure Tryz.hT rfl rfl rfl ?_
  refine wl_nil ?_
  refine zE ?_
  refine zH ?_
  refine wc_loop (X := Nat) (fun k => [(2, .pointer (some ⟨b2, 0, none⟩)), (3, .pointer (some ⟨b3, 0, none⟩)), (5, .int .i64 (k : Nat))]) (fun _ => [⟨b2, 24, [slv p rs.length cap], true, none⟩, ⟨b3, 24, [slv p' rs'.length cap'], true, none⟩])
    (fun k => k ≤ rs.length ∧ ∀ j, j < k → rg rs j = rg rs' j) (fun k => rs.length - k) 0 ⟨Nat.zero_le _, fun j hj => absurd hj (Nat.not_lt_zero _)⟩ ⟨rfl, rfl, rfl, trivial⟩ [] rfl ?_
  rintro k ⟨hk, hok⟩
  refine zA ?_
  refine zA ?_
  refine zB ?_
  refine wl_pure Tryz.hT rfl rfl rfl ?_
  refine wl_pure Tryz.hT rfl rfl rfl ?_
  refine wl_loadBx 0 Tryz.hT rfl rfl rfl rfl rfl rfl rfl rfl ?_
  refine wl_pure Tryz.hT rfl rfl rfl ?_
  refine wl_pure Tryz.hT rfl rfl rfl ?_
  refine wl_nil ?_
  refine zE ?_
  refine wc_cond rfl (fun h => ?_) (fun h => ?_)
  rotate_left
  · have e : k = rs.length := by simp at h; omega
    subst e
    refine zJ ?_
    refine zK ?_
    refine zK ?_
    refine zL ?_
    refine zE ?_
    refine zA ?_
    refine zB ?_
    refine wl_pure Tryz.hT rfl rfl rfl ?_
    refine wl_nil ?_
    refine zE ?_
    refine zO ?_
    exact ne_ret1 Tryz.hT rfl (.tmp rfl) () (by rw [decide_eq_true (rs_ext hlen hok)]) trivial fun W _ => NewBx.nil _ _
  have hk : k < rs.length := by simp at h; omega
  clear h
  have hk' : k < rs'.length := by omega
  obtain ⟨b, off, rfl, hrow⟩ := hR.row hk
  obtain ⟨q, cap2, hq1, hq2⟩ := hrow k hk
  obtain ⟨b', off', rfl, hrow'⟩ := hR'.row hk'
  obtain ⟨q', cap2', hq1', hq2'⟩ := hrow' k hk'
  have hlk := hl _ (List.mem_of_getElem? (rg_get hk))
  refine zI ?_
  refine zE ?_
  refine zA ?_
  refine zH ?_
  refine zA ?_
  refine zA ?_
  refine zT Tryz.mixed (by kernel_rfl) ?_
  refine wq_pure Tryz.hT rfl rfl rfl ?_
  refine wq_loadBx 0 Tryz.hT rfl rfl rfl rfl rfl rfl rfl rfl ?_
  refine wq_pure Tryz.hT rfl rfl rfl ?_
  refine wq_indexAddr Tryz.hT rfl rfl rfl rfl rfl rfl rfl (by omega) (by omega) ?_
  refine wq_load rfl rfl rfl rfl (fun W hp => RowAt.load 0 Tryz.hT rfl ((fun W hp => hq1.hp hp) W hp) rfl) ?_
  refine wq_pure Tryz.hT rfl rfl rfl ?_
  refine wq_pure Tryz.hT rfl rfl rfl ?_
  refine wq_loadBx 1 Tryz.hT rfl rfl rfl rfl rfl rfl rfl rfl ?_
  refine wq_pure Tryz.hT rfl rfl rfl ?_
  refine wq_indexAddr Tryz.hT rfl rfl rfl rfl rfl rfl rfl (by omega) (by omega) ?_
  refine wq_load rfl rfl rfl rfl (fun W hp => RowAt.load 0 Tryz.hT rfl ((fun W hp => hq1'.hp hp) W hp) rfl) ?_
  refine wq_pure Tryz.hT rfl rfl rfl ?_
  refine wq_pure Tryz.hT rfl rfl rfl ?_
  refine wq_nil ?_
  refine wl_nil ?_
  refine zE ?_
  refine wc_cond rfl (fun h => ?_) (fun h => ?_)
  · refine zA ?_
    refine zB ?_
    refine wl_pure Tryz.hT rfl rfl rfl ?_
    refine wl_nil ?_
    refine zE ?_
    refine zO ?_
    refine zP ?_
    refine zQ ?_
    refine zP ?_
    refine zP ?_
    refine zQ ?_
    refine zP ?_
    have hne : ¬ rs = rs' := fun e => by
      have h' : (((rg rs k).length : Int) != ((rg rs' k).length : Int)) = true := h
      rw [e] at h'; simp at h'
    exact ne_ret1 Tryz.hT rfl (.tmp rfl) () (by rw [decide_eq_false hne]) trivial fun W _ => NewBx.nil _ _
  have hlen2 : (rg rs k).length = (rg rs' k).length := by
    have h' : (((rg rs k).length : Int) != ((rg rs' k).length : Int)) = false := h
    simp at h'; omega
  clear h
  refine zI ?_
  refine zE ?_
  refine zA ?_
  refine zB ?_
  refine wl_pure Tryz.hT rfl rfl rfl ?_
  refine wl_nil ?_
  refine zE ?_
  refine zH ?_
  refine wc_loop (X := Nat) (fun j => [(2, .pointer (some ⟨b2, 0, none⟩)), (3, .pointer (some ⟨b3, 0, none⟩)), (5, .int .i64 (k : Nat)), (6, .int .i64 (j : Nat))]) (fun _ => [⟨b2, 24, [slv (some ⟨b, off, none⟩) rs.length cap], true, none⟩, ⟨b3, 24, [slv (some ⟨b', off', none⟩) rs'.length cap'], true, none⟩])
    (fun j => j ≤ (rg rs k).length ∧ ∀ i, i < j → sd (rg rs k) i = sd (rg rs' k) i) (fun j => (rg rs k).length - j) 0 ⟨Nat.zero_le _, fun j hj => absurd hj (Nat.not_lt_zero _)⟩ ⟨rfl, rfl, rfl, rfl, trivial⟩ [] rfl ?_
  rintro j ⟨hj, hokj⟩
  refine zA ?_
  refine zA ?_
  refine zB ?_
  refine wl_pure Tryz.hT rfl rfl rfl ?_
  refine wl_pure Tryz.hT rfl rfl rfl ?_
  refine wl_loadBx 0 Tryz.hT rfl rfl rfl rfl rfl rfl rfl rfl ?_
  refine wl_pure Tryz.hT rfl rfl rfl ?_
  refine wl_indexAddr Tryz.hT rfl rfl rfl rfl rfl rfl rfl (by omega) (by omega) ?_
  refine wl_load rfl rfl rfl rfl (fun W hp => RowAt.load 0 Tryz.hT rfl ((fun W hp => hq1.hp hp) W hp) rfl) ?_
  refine wl_pure Tryz.hT rfl rfl rfl ?_
  refine wl_pure Tryz.hT rfl rfl rfl ?_
  refine wl_nil ?_
  refine zE ?_
  refine wc_cond rfl (fun h => ?_) (fun h => ?_)
  rotate_left
  · have e : j = (rg rs k).length := by simp at h; omega
    subst e
    refine zJ ?_
    refine zK ?_
    refine zK ?_
    refine zL ?_
    refine zN ?_
    refine zE ?_
    refine zB ?_
    refine wl_pure Tryz.hT rfl rfl rfl ?_
    refine wl_pure Tryz.hT rfl rfl rfl ?_
    refine wl_pure Tryz.hT rfl rfl rfl ?_
    refine wl_nil ?_
    refine ne_loop (k + 1) ⟨hk, fun i hi => ?_⟩ (by omega) ⟨rfl, rfl, congrArg (fun z => some (Value.int .i64 z)) (wrap_id (x := (k : Int) + 1) (by omega) (by omega)), trivial⟩ [] rfl
    by_cases e : i = k
    · subst e; exact sd_list_ext hlen2 hokj
    · exact hok i (by omega)
  have hj : j < (rg rs k).length := by simp at h; omega
  clear h
  have hj' : j < (rg rs' k).length := by omega
  obtain ⟨b4, off4, rfl, hrow4⟩ := hq2.row hj
  obtain ⟨b5, off5, rfl, hrow5⟩ := hq2'.row hj'
  refine zI ?_
  refine zE ?_
  refine zA ?_
  refine zH ?_
  refine zA ?_
  refine zT Tryz.mixed (by kernel_rfl) ?_
  refine wq_pure Tryz.hT rfl rfl rfl ?_
  refine wq_loadBx 0 Tryz.hT rfl rfl rfl rfl rfl rfl rfl rfl ?_
  refine wq_pure Tryz.hT rfl rfl rfl ?_
  refine wq_indexAddr Tryz.hT rfl rfl rfl rfl rfl rfl rfl (by omega) (by omega) ?_
  refine wq_load rfl rfl rfl rfl (fun W hp => RowAt.load 0 Tryz.hT rfl ((fun W hp => hq1.hp hp) W hp) rfl) ?_
  refine wq_pure Tryz.hT rfl rfl rfl ?_
  refine wq_indexAddr Tryz.hT rfl rfl rfl rfl rfl rfl rfl (by omega) (by omega) ?_
  refine wq_load rfl rfl rfl rfl (fun W hp => RowAt.load 0 Tryz.hT rfl ((fun W hp => (hrow4 j hj).hp hp) W hp) rfl) ?_
  refine wq_pure Tryz.hT rfl rfl rfl ?_
  refine wq_loadBx 1 Tryz.hT rfl rfl rfl rfl rfl rfl rfl rfl ?_
  refine wq_pure Tryz.hT rfl rfl rfl ?_
  refine wq_indexAddr Tryz.hT rfl rfl rfl rfl rfl rfl rfl (by omega) (by omega) ?_
  refine wq_load rfl rfl rfl rfl (fun W hp => RowAt.load 0 Tryz.hT rfl ((fun W hp => hq1'.hp hp) W hp) rfl) ?_
  refine wq_pure Tryz.hT rfl rfl rfl ?_
  refine wq_indexAddr Tryz.hT rfl rfl rfl rfl rfl rfl rfl (by omega) (by omega) ?_
  refine wq_load rfl rfl rfl rfl (fun W hp => RowAt.load 0 Tryz.hT rfl ((fun W hp => (hrow5 j hj').hp hp) W hp) rfl) ?_
  refine wq_neqSd (s := sd (rg rs k) j) (t := sd (rg rs' k) j) rfl rfl rfl rfl rfl ?_
  refine wq_nil ?_
  refine wl_nil ?_
  refine zE ?_
  refine wc_cond rfl (fun h => ?_) (fun h => ?_)
  · refine zA ?_
    refine zB ?_
    refine wl_pure Tryz.hT rfl rfl rfl ?_
    refine wl_nil ?_
    refine zE ?_
    refine zO ?_
    refine zQ ?_
    refine zP ?_
    refine zP ?_
    refine zQ ?_
    refine zQ ?_
    refine zP ?_
    refine zP ?_
    refine zQ ?_
    refine zP ?_
    have hne : ¬ rs = rs' := fun e => by
      have h' : (!decide (sd (rg rs k) j = sd (rg rs' k) j)) = true := h
      rw [e] at h'; simp at h'
    exact ne_ret1 Tryz.hT rfl (.tmp rfl) () (by rw [decide_eq_false hne]) trivial fun W _ => NewBx.nil _ _
  · have he : sd (rg rs k) j = sd (rg rs' k) j := by
      have h' : (!decide (sd (rg rs k) j = sd (rg rs' k) j)) = false := h
      simpa using h'
    refine zI ?_
    refine zN ?_
    refine zE ?_
    refine zB ?_
    refine wl_pure Tryz.hT rfl rfl rfl ?_
    refine wl_pure Tryz.hT rfl rfl rfl ?_
    refine wl_pure Tryz.hT rfl rfl rfl ?_
    refine wl_nil ?_
    refine ne_loop (j + 1) ⟨hj, fun i hi => ?_⟩ (by omega) ⟨rfl, rfl, rfl, congrArg (fun z => some (Value.int .i64 z)) (wrap_id (x := (j : Int) + 1) (by omega) (by omega)), trivial⟩ [] rfl
    by_cases e : i = j
    · subst e; exact he
    · exact hokj i (by omega)
end Go.Proofs.YtnpfkmbcejgnjaaGreatDoor
