/-
  PlanRotates returns true.
-/
import Derived.Test.YtnpfkmbcejgnjaaGreatDoorRotFacts
import Derived.Test.YtnpfkmbcejgnjaaGreatDoorAwake
import Derived.Test.YtnpfkmbcejgnjaaGreatDoorAreaF
import Derived.Test.YtnpfkmbcejgnjaaGreatDoorSdEq
import Derived.Test.YtnpfkmbcejgnjaaGreatDoorReset
namespace Go.Proofs.YtnpfkmbcejgnjaaGreatDoor
open Go Go.RowKit Go.Am
set_option maxRecDepth 10000
-- BOXES 20
-- BOXIDX t3=0 t7=3 t9=6 t11=9 t13=12 t15=15
theorem rot_ok (W : World) (p : Option Addr) (cap : Nat) (rs : List (List Sd)) (n : Int) (hn : rs.length < 1099511627776) (hR : RingsP W p rs) (hc : chk rs = 0) (h3 : (turned rs n).flatten.any (fun s => !rgd s) = false) :
    CallsR Tryz.prog 28 #[planV p rs.length cap, .int .i64 n] W (fun x : Vec × Made => .tuple #[.agg #[x.1.val rs.length], .int .i64 0]) (fun x => MadeOK x.2 (turned rs n) ∧ x.1.OK 1 rs.length (rowCells x.2)) (fun x => [x.1.bx 27 (rowCells x.2), mkB x.2]) :=
  ⟨(rotate_gives W p cap rs n hn hR hc).out.mono fun e W' ⟨x, he, hx, hb, hw⟩ => by
    cases x with
    | none => exact absurd (show (turned rs n).flatten.any (fun s => !rgd s) = true from hx) (by rw [h3]; decide)
    | some x => exact ⟨x, he, hx.2, hb, hw⟩⟩
theorem rot_no (W : World) (p : Option Addr) (cap : Nat) (rs : List (List Sd)) (n : Int) (hn : rs.length < 1099511627776) (hR : RingsP W p rs) (hc : chk rs = 0) (h3 : (turned rs n).flatten.any (fun s => !rgd s) = true) :
    CallsR Tryz.prog 28 #[planV p rs.length cap, .int .i64 n] W (fun _ : Unit => .tuple #[noPlan, .int .i64 2]) (fun _ => True) (fun _ => []) :=
  ⟨(rotate_gives W p cap rs n hn hR hc).out.mono fun e W' ⟨x, he, hx, hb, hw⟩ => by
    cases x with
    | some x => exact absurd (show (turned rs n).flatten.any (fun s => !rgd s) = false from hx.1) (by rw [h3]; decide)
    | none => exact ⟨(), he, trivial, hb, hw⟩⟩
/-- What comes of a turn that may leave the range. -/
def mayT (rs : List (List Sd)) (n : Int) : List (List Sd) := if (turned rs n).flatten.any (fun s => !rgd s) = true then [] else turned rs n
def mayE (rs : List (List Sd)) (n : Int) : Int := if (turned rs n).flatten.any (fun s => !rgd s) = true then 2 else 0
theorem rot_may (W : World) (p : Option Addr) (cap : Nat) (rs : List (List Sd)) (n : Int) (hn : rs.length < 1099511627776) (hR : RingsP W p rs) (hc : chk rs = 0) :
    CallsR Tryz.prog 28 #[planV p rs.length cap, .int .i64 n] W (rotX rs) (rotOK rs (qn n).toNat) (fun x => [wayA x, wayB x]) :=
  ⟨(rotate_gives W p cap rs n hn hR hc).out.mono fun e W' ⟨x, he, hx, hb, hw⟩ => by
    refine ⟨x, he, hx, hb, ?_⟩
    cases x with
    | some x => exact hw
    | none =>
      have h : Hp W [] W' := ⟨hb, hw⟩
      exact h.newGone.newGone.own⟩
theorem may_rings {rs : List (List Sd)} {n : Int} {x : Way} (h : rotOK rs (qn n).toNat x) (hl : (turned rs n).length = rs.length) :
    ∃ q cq, rotX rs x = .tuple #[planV q (mayT rs n).length cq, .int .i64 (mayE rs n)] ∧ ∀ {W0 W : World} {bxs : List Bx}, Hp W0 bxs W → ∀ i j, nth bxs i = some (wayA x) → nth bxs j = some (wayB x) → RingsP W q (mayT rs n) := by
  cases x with
  | none =>
    have h : (turned rs n).flatten.any (fun s => !rgd s) = true := h
    refine ⟨none, 0, ?_, fun _ _ _ _ _ => .inl ?_⟩
    · unfold mayT mayE; rw [if_pos h, if_pos h]; rfl
    · unfold mayT; rw [if_pos h]
  | some x =>
    obtain ⟨V, mk⟩ := x
    obtain ⟨h1, h2, h3⟩ : (turned rs n).flatten.any (fun s => !rgd s) = false ∧ MadeOK mk (turned rs n) ∧ V.OK 1 rs.length (rowCells mk) := h
    have h3' : V.OK 1 (turned rs n).length (rowCells mk) := by rw [hl]; exact h3
    obtain ⟨q, cq, e1, e2⟩ := made_rings h2 h3'
    have e3 : mayT rs n = turned rs n := by unfold mayT; rw [if_neg (by rw [h1]; decide)]
    have e4 : mayE rs n = 0 := by unfold mayE; rw [if_neg (by rw [h1]; decide)]
    refine ⟨q, cq, ?_, fun hp i j hi hj => by rw [e3]; exact e2 hp i j hi hj⟩
    rw [e3, e4]
    exact congrArg (fun v => Value.tuple #[.agg #[v], .int .i64 0]) (show V.val rs.length = slv q (turned rs n).length cq by rw [← hl]; exact e1)
section
variable {r : Option Nat} {n : Nat} {P : Program} {N : Nat} {D : List Deferred} {ops : List Oper} {Q : Exit → Act → World → Prop} {o : Oper} {rest : List Oper} {env : Env} {A : World → Prop}
theorem wl_cvt {d : Nat} {t u : TypeId} {x : Operand} {k k' kt : IntKind} {z : Int} (ht : P.underlying t = some (.int kt)) (hu : P.underlying u = some (.int k)) (hg : guardE ops N env o = some true) (hd : o.dst = some d) (ho : o.op = .convert t u x) (hx : evO N env x = some (.int k' z))
    (h : WL r n P N D ops Q rest ((d, .int k (k.wrap z)) :: env) A) : WL r n P N D ops Q (o :: rest) env A :=
  wl_val hg hd (fun c e => by rw [ho] at e; cases e) (fun ρ W hρ _ => by
    simp [execOp, ho, convert, hρ _ _ hx, run_underlying ht, run_underlying hu, Conv.intToInt]) h
end
theorem Vec.sides {V : Vec} {l : List Sd} (hV : V.OK 7 l.length (cellsOf l)) (hl : 0 < l.length) : ∃ g cap, V.val l.length = slv (some ⟨g, 0, none⟩) l.length cap ∧ ∀ {W0 W : World} {bxs : List Bx}, Hp W0 bxs W → ∀ k, nth bxs k = some (V.bx 42 (cellsOf l)) → ∀ i, i < l.length → RowAt W g (0 + i * 7) (sd l i).cells := by
  obtain ⟨q, cq, e, h⟩ := Vec.ring hV
  obtain ⟨p, cap, junk⟩ := V
  cases p with
  | none => have := hV.nil rfl; omega
  | some g =>
    have e' : Value.slice (some ⟨g, 0, none⟩) l.length cap = Value.slice q l.length cq := e
    injection e' with e1 _ e2
    subst e1
    refine ⟨g, cap, rfl, fun hp k hk i hi => ?_⟩
    obtain ⟨b, off, e3, hrow⟩ := (h hp k hk).row hl
    cases e3
    exact hrow i hi
abbrev i8 (z : Int) : Value := .int .i8 z
theorem turned_len (rs : List (List Sd)) (n : Int) : (turned rs n).length = rs.length := by unfold turned rotV; rw [mvR_len, rotN_len]
theorem turned_tot (rs : List (List Sd)) (n : Int) : tot (turned rs n) = tot rs := by unfold turned rotV; rw [tot_mvR, rotN_tot]
set_option maxHeartbeats 16000000 in
theorem rotates_gives (W : World) (p : Option Addr) (cap : Nat) (rs : List (List Sd)) (a b : Int) (hn : rs.length < 1099511627776) (hT : tot rs < 4611686018427387904) (hR : RingsP W p rs) (ht : TabP W)
    (ha : -128 ≤ a ∧ a ≤ 127) (hb : -128 ≤ b ∧ b ≤ 127) :
    CallsR Tryz.prog 6 #[planV p rs.length cap, i8 a, i8 b] W (fun _ : Unit => .bool true) (fun _ => True) (fun _ => []) := by
  have u48 := Tryz.underlying48
  have u3 := Tryz.underlying3
  have wa : w64 a = a := w64_id (by omega) (by omega)
  have wb : w64 b = b := w64_id (by omega) (by omega)
  have hn2 : rs.length < 4611686018427387904 := by omega
  have hl2 : ∀ l ∈ rs, l.length < 4611686018427387904 := fun l hl => by have := len_le_tot hl; omega
  refine calls_enter (args := [planV p rs.length cap, i8 a, i8 b]) Tryz.func6 rfl rfl rfl ?_
  refine zA ?_
  refine zB ?_
  (refine wl_box rfl rfl rfl rfl ?_; intro)
  refine wl_pure Tryz.hT rfl rfl rfl ?_
  refine wl_nil ?_
  rename_i b3
  refine zE ?_
  refine zA ?_
  refine zA ?_
  refine zB ?_
  refine wl_loadBx 0 Tryz.hT rfl rfl rfl rfl rfl rfl rfl rfl ?_
  refine wl_call1 rfl rfl rfl rfl rfl rfl (by kernel_rfl) (fun W hp => fine_gives W p cap rs (by omega) hT (hR.hp hp)) ?_
  refine wl_pure Tryz.hT rfl rfl rfl ?_
  refine wl_nil ?_
  refine zE ?_
  refine wc_cond rfl (fun hfine => ?_) (fun hfine => ?_)
  · refine zA ?_
    refine zB ?_
    refine wl_call1 rfl rfl rfl rfl rfl rfl (by kernel_rfl) (fun W hp => awake_gives W (ht.hp hp)) ?_
    refine wl_pure Tryz.hT rfl rfl rfl ?_
    refine wl_nil ?_
    refine zE ?_
    refine zO ?_
    refine zP ?_
    exact ne_ret1 Tryz.hT rfl (.tmp rfl) () rfl trivial fun W _ => NewBx.nil _ _
  have hfine : fineB rs = true := by simpa using hfine
  unfold fineB at hfine
  obtain ⟨_, hc0⟩ := Bool.and_eq_true_iff.1 hfine
  have hc : chk rs = 0 := by simpa using hc0
  clear hfine hc0
  obtain ⟨hne, h24, h0⟩ := chk_ne hc
  have h4 : (turned rs 4).flatten.any (fun s => !rgd s) = false := by rw [turned_four hc]; exact any_rgd_of hc
  refine zI ?_
  refine zE ?_
  refine zA ?_
  refine zB ?_
  refine wl_loadBx 0 Tryz.hT rfl rfl rfl rfl rfl rfl rfl rfl ?_
  refine wl_call (X := Vec × Made) rfl rfl rfl rfl rfl rfl (by kernel_rfl) (fun W hp => rot_ok W p cap rs 4 hn (hR.hp hp) hc h4) ?_
  rintro ⟨V1, mk1⟩ ⟨hmk1, hV1⟩
  rw [turned_four hc] at hmk1
  have hV1' : V1.OK 1 rs.length (rowCells mk1) := hV1
  obtain ⟨q1, cq1, eV1, hr1⟩ := made_rings hmk1 hV1'
  generalize V1.bx 27 (rowCells mk1) = A1 at *
  generalize mkB mk1 = B1 at *
  refine wl_upd 34 (.tuple #[planV q1 rs.length cq1, .int .i64 0]) rfl (congrArg (fun v => Value.tuple #[.agg #[v], .int .i64 0]) eV1) ?_
  refine wl_pure Tryz.hT rfl rfl rfl ?_
  refine wl_pure Tryz.hT rfl rfl rfl ?_
  refine wl_pure Tryz.hT rfl rfl rfl ?_
  (refine wl_allocZ Tryz.hZ rfl rfl rfl rfl ?_; intro)
  refine wl_storeBx 3 Tryz.hT rfl rfl rfl rfl rfl rfl rfl rfl rfl rfl rfl ?_
  refine wl_pure Tryz.hT rfl rfl rfl ?_
  refine wl_nil ?_
  rename_i b7
  refine zE ?_
  refine zA ?_
  refine zB ?_
  refine wl_loadBx 0 Tryz.hT rfl rfl rfl rfl rfl rfl rfl rfl ?_
  refine wl_pure Tryz.hT rfl rfl rfl ?_
  refine wl_cvt u48 u3 rfl rfl rfl rfl ?_
  refine wl_upd 40 (.int .i64 a) rfl (congrArg (Value.int .i64) wa) ?_
  cases hx : (turned rs a).flatten.any (fun s => !rgd s) with
  | true =>
    have hodd : Int.tmod a 2 ≠ 0 := fun e => by rw [turned_even hc e] at hx; cases hx
    refine wl_call1 rfl rfl rfl rfl rfl rfl (by kernel_rfl) (fun W hp => rot_no W p cap rs a hn (hR.hp hp) hc hx) ?_
    refine wl_pure Tryz.hT rfl rfl rfl ?_
    refine wl_pure Tryz.hT rfl rfl rfl ?_
    refine wl_pure Tryz.hT rfl rfl rfl ?_
    (refine wl_allocZ Tryz.hZ rfl rfl rfl rfl ?_; intro)
    refine wl_storeBx 4 Tryz.hT rfl rfl rfl rfl rfl rfl rfl rfl rfl rfl rfl ?_
    refine wl_pure Tryz.hT rfl rfl rfl ?_
    refine wl_nil ?_
    refine zE ?_
    refine zA ?_
    refine zA ?_
    refine zB ?_
    refine wl_pure Tryz.hT rfl rfl rfl ?_
    refine wl_pure Tryz.hT rfl rfl rfl ?_
    refine wl_upd 45 (.bool false) rfl (congrArg Value.bool (by decide)) ?_
    refine wl_pure Tryz.hT rfl rfl rfl ?_
    refine wl_loadBx 3 Tryz.hT rfl rfl rfl rfl rfl rfl rfl rfl ?_
    refine wl_loadBx 0 Tryz.hT rfl rfl rfl rfl rfl rfl rfl rfl ?_
    refine wl_call1 rfl rfl rfl rfl rfl rfl (by kernel_rfl) (fun W hp => (same_gives W q1 p cq1 cap rs rs hn2 hl2 (hr1 hp 1 2 rfl rfl) (hR.hp hp)).cast (by rw [decide_eq_true rfl])) ?_
    refine wl_pure Tryz.hT rfl rfl rfl ?_
    refine wl_pure Tryz.hT rfl rfl rfl ?_
    refine wl_nil ?_
    refine zE ?_
    refine zS rfl ?_
    refine zI ?_
    refine zE ?_
    refine zA ?_
    refine zA ?_
    refine zB ?_
    refine wl_pure Tryz.hT rfl rfl rfl ?_
    refine wl_pure Tryz.hT rfl rfl rfl ?_
    refine wl_nil ?_
    refine zE ?_
    refine zR rfl ?_
    refine zA ?_
    refine zB ?_
    refine wl_pure Tryz.hT rfl rfl rfl ?_
    refine wl_pure Tryz.hT rfl rfl rfl ?_
    refine wl_pure Tryz.hT rfl rfl rfl ?_
    refine wl_pure Tryz.hT rfl rfl rfl ?_
    refine wl_cvt u48 u3 rfl rfl rfl rfl ?_
    refine wl_upd 58 (.int .i64 a) rfl (congrArg (Value.int .i64) wa) ?_
    refine wl_rem rfl rfl rfl rfl rfl (by decide) ?_
    refine wl_pure Tryz.hT rfl rfl rfl ?_
    refine wl_upd 60 (.bool true) rfl (congrArg Value.bool (by show (Int.tmod a 2 != 0) = true; simpa using hodd)) ?_
    refine wl_pure Tryz.hT rfl rfl rfl ?_
    refine wl_pure Tryz.hT rfl rfl rfl ?_
    refine wl_call1 rfl rfl rfl rfl rfl rfl (by kernel_rfl) (fun W hp => awake_gives W (ht.hp hp)) ?_
    refine wl_pure Tryz.hT rfl rfl rfl ?_
    refine wl_pure Tryz.hT rfl rfl rfl ?_
    refine wl_nil ?_
    refine zE ?_
    refine zO ?_
    refine zP ?_
    exact ne_ret1 Tryz.hT rfl (.tmp rfl) () rfl trivial fun W _ => NewBx.nil _ _
  | false =>
    obtain ⟨hcx, hlx, hax, hfx, hvx, hsx⟩ := turned_facts hc hx
    have hbk := turned_back hc (a := a) (b := -a) hx (by omega)
    have hbt := turned_turned hc (a := a) (b := b) (c := a + b) hx (by omega)
    refine wl_call (X := Vec × Made) rfl rfl rfl rfl rfl rfl (by kernel_rfl) (fun W hp => rot_ok W p cap rs a hn (hR.hp hp) hc hx) ?_
    rintro ⟨V2, mk2⟩ ⟨hmk2, hV2⟩
    have hTx : tot (turned rs a) = tot rs := turned_tot rs a
    generalize turned rs a = x at *
    have hV2' : V2.OK 1 x.length (rowCells mk2) := by rw [hlx]; exact hV2
    obtain ⟨q2, cq2, eV2, hr2⟩ := made_rings hmk2 hV2'
    generalize V2.bx 27 (rowCells mk2) = A2 at *
    generalize mkB mk2 = B2 at *
    refine wl_upd 41 (.tuple #[planV q2 x.length cq2, .int .i64 0]) rfl (congrArg (fun v => Value.tuple #[.agg #[v], .int .i64 0]) (by rw [← eV2, hlx])) ?_
    refine wl_pure Tryz.hT rfl rfl rfl ?_
    refine wl_pure Tryz.hT rfl rfl rfl ?_
    refine wl_pure Tryz.hT rfl rfl rfl ?_
    (refine wl_allocZ Tryz.hZ rfl rfl rfl rfl ?_; intro)
    refine wl_storeBx 6 Tryz.hT rfl rfl rfl rfl rfl rfl rfl rfl rfl rfl rfl ?_
    refine wl_pure Tryz.hT rfl rfl rfl ?_
    refine wl_nil ?_
    rename_i b9
    refine zE ?_
    refine zA ?_
    refine zA ?_
    refine zB ?_
    refine wl_pure Tryz.hT rfl rfl rfl ?_
    refine wl_pure Tryz.hT rfl rfl rfl ?_
    refine wl_upd 45 (.bool false) rfl (congrArg Value.bool (by decide)) ?_
    refine wl_pure Tryz.hT rfl rfl rfl ?_
    refine wl_loadBx 3 Tryz.hT rfl rfl rfl rfl rfl rfl rfl rfl ?_
    refine wl_loadBx 0 Tryz.hT rfl rfl rfl rfl rfl rfl rfl rfl ?_
    refine wl_call1 rfl rfl rfl rfl rfl rfl (by kernel_rfl) (fun W hp => (same_gives W q1 p cq1 cap rs rs hn2 hl2 (hr1 hp 1 2 rfl rfl) (hR.hp hp)).cast (by rw [decide_eq_true rfl])) ?_
    refine wl_pure Tryz.hT rfl rfl rfl ?_
    refine wl_pure Tryz.hT rfl rfl rfl ?_
    refine wl_nil ?_
    refine zE ?_
    refine zS rfl ?_
    refine zI ?_
    refine zE ?_
    refine zA ?_
    refine zA ?_
    refine zB ?_
    refine wl_pure Tryz.hT rfl rfl rfl ?_
    refine wl_pure Tryz.hT rfl rfl rfl ?_
    refine wl_nil ?_
    refine zE ?_
    refine zS rfl ?_
    refine zI ?_
    refine zE ?_
    refine zA ?_
    refine zB ?_
    refine wl_reset [(1, i8 a), (2, i8 b), (3, .pointer (some ⟨b3, 0, none⟩)), (9, .pointer (some ⟨b9, 0, none⟩))] [⟨b3, 24, [slv p rs.length cap], true, none⟩, A2, B2, ⟨b9, 24, [slv q2 x.length cq2], true, none⟩] ⟨rfl, rfl, rfl, rfl, trivial⟩ [0, 4, 5, 6] (by decide) rfl ?_
    refine wl_loadBx 3 Tryz.hT rfl rfl rfl rfl rfl rfl rfl rfl ?_
    refine wl_pure Tryz.hT rfl rfl rfl ?_
    refine wl_cvt u48 u3 rfl rfl rfl rfl ?_
    refine wl_upd 68 (.int .i64 a) rfl (congrArg (Value.int .i64) wa) ?_
    refine wl_pure Tryz.hT rfl rfl rfl ?_
    refine wl_upd 69 (.int .i64 (-a)) rfl (congrArg (Value.int .i64) (show w64 (0 - a) = -a by rw [w64_id (by omega) (by omega)]; omega)) ?_
    have hb3 : (turned x (-a)).flatten.any (fun s => !rgd s) = false := by rw [hbk]; exact any_rgd_of hc
    refine wl_call (X := Vec × Made) rfl rfl rfl rfl rfl rfl (by kernel_rfl) (fun W hp => rot_ok W q2 cq2 x (-a) (by omega) (hr2 hp 1 2 rfl rfl) hcx hb3) ?_
    rintro ⟨V3, mk3⟩ ⟨hmk3, hV3⟩
    rw [hbk] at hmk3
    have hV3' : V3.OK 1 rs.length (rowCells mk3) := by rw [← hlx]; exact hV3
    obtain ⟨q3, cq3, eV3, hr3⟩ := made_rings hmk3 hV3'
    generalize V3.bx 27 (rowCells mk3) = A3 at *
    generalize mkB mk3 = B3 at *
    refine wl_upd 70 (.tuple #[planV q3 rs.length cq3, .int .i64 0]) rfl (congrArg (fun v => Value.tuple #[.agg #[v], .int .i64 0]) (by rw [← eV3, hlx])) ?_
    refine wl_pure Tryz.hT rfl rfl rfl ?_
    refine wl_pure Tryz.hT rfl rfl rfl ?_
    refine wl_pure Tryz.hT rfl rfl rfl ?_
    (refine wl_allocZ Tryz.hZ rfl rfl rfl rfl ?_; intro)
    refine wl_storeBx 6 Tryz.hT rfl rfl rfl rfl rfl rfl rfl rfl rfl rfl rfl ?_
    refine wl_pure Tryz.hT rfl rfl rfl ?_
    refine wl_nil ?_
    rename_i b11
    refine zE ?_
    refine zA ?_
    refine zB ?_
    refine wl_loadBx 3 Tryz.hT rfl rfl rfl rfl rfl rfl rfl rfl ?_
    refine wl_pure Tryz.hT rfl rfl rfl ?_
    refine wl_cvt u48 u3 rfl rfl rfl rfl ?_
    refine wl_upd 76 (.int .i64 b) rfl (congrArg (Value.int .i64) wb) ?_
    refine wl_call (X := Way) rfl rfl rfl rfl rfl rfl (by kernel_rfl) (fun W hp => rot_may W q2 cq2 x b (by omega) (hr2 hp 1 2 rfl rfl) hcx) ?_
    intro X4 hX4
    obtain ⟨q4, cq4, eV4, hr4⟩ := may_rings hX4 (turned_len x b)
    have hm4 : mayT x b = mayT rs (a + b) := by unfold mayT; rw [hbt]
    have he4 : mayE x b = mayE rs (a + b) := by unfold mayE; rw [hbt]
    rw [hm4] at eV4 hr4
    rw [he4] at eV4
    generalize wayA X4 = A4 at *
    generalize wayB X4 = B4 at *
    refine wl_upd 77 (.tuple #[planV q4 (mayT rs (a + b)).length cq4, .int .i64 (mayE rs (a + b))]) rfl eV4 ?_
    refine wl_pure Tryz.hT rfl rfl rfl ?_
    refine wl_pure Tryz.hT rfl rfl rfl ?_
    refine wl_pure Tryz.hT rfl rfl rfl ?_
    (refine wl_allocZ Tryz.hZ rfl rfl rfl rfl ?_; intro)
    refine wl_storeBx 9 Tryz.hT rfl rfl rfl rfl rfl rfl rfl rfl rfl rfl rfl ?_
    refine wl_pure Tryz.hT rfl rfl rfl ?_
    refine wl_nil ?_
    rename_i b13
    refine zE ?_
    refine zA ?_
    refine zB ?_
    refine wl_loadBx 0 Tryz.hT rfl rfl rfl rfl rfl rfl rfl rfl ?_
    refine wl_pure Tryz.hT rfl rfl rfl ?_
    refine wl_cvt u48 u3 rfl rfl rfl rfl ?_
    refine wl_upd 83 (.int .i64 a) rfl (congrArg (Value.int .i64) wa) ?_
    refine wl_pure Tryz.hT rfl rfl rfl ?_
    refine wl_cvt u48 u3 rfl rfl rfl rfl ?_
    refine wl_upd 85 (.int .i64 b) rfl (congrArg (Value.int .i64) wb) ?_
    refine wl_pure Tryz.hT rfl rfl rfl ?_
    refine wl_upd 86 (.int .i64 (a + b)) rfl (congrArg (Value.int .i64) (show w64 (a + b) = a + b from w64_id (by omega) (by omega))) ?_
    refine wl_call (X := Way) rfl rfl rfl rfl rfl rfl (by kernel_rfl) (fun W hp => rot_may W p cap rs (a + b) hn (hR.hp hp) hc) ?_
    intro X5 hX5
    obtain ⟨q5, cq5, eV5, hr5⟩ := may_rings hX5 (turned_len rs (a + b))
    generalize wayA X5 = A5 at *
    generalize wayB X5 = B5 at *
    refine wl_upd 87 (.tuple #[planV q5 (mayT rs (a + b)).length cq5, .int .i64 (mayE rs (a + b))]) rfl eV5 ?_
    refine wl_pure Tryz.hT rfl rfl rfl ?_
    refine wl_pure Tryz.hT rfl rfl rfl ?_
    refine wl_pure Tryz.hT rfl rfl rfl ?_
    (refine wl_allocZ Tryz.hZ rfl rfl rfl rfl ?_; intro)
    refine wl_storeBx 12 Tryz.hT rfl rfl rfl rfl rfl rfl rfl rfl rfl rfl rfl ?_
    refine wl_pure Tryz.hT rfl rfl rfl ?_
    refine wl_nil ?_
    rename_i b15
    have hml : (mayT rs (a + b)).length ≤ rs.length := by unfold mayT; split; exact Nat.zero_le _; rw [turned_len]; exact Nat.le_refl _
    have hmt : ∀ l ∈ mayT rs (a + b), l.length < 4611686018427387904 := by
      intro l hl
      have h1 := len_le_tot hl
      have h2 : tot (mayT rs (a + b)) ≤ tot rs := by unfold mayT; split; exact Nat.zero_le _; rw [turned_tot]; exact Nat.le_refl _
      omega
    generalize mayT rs (a + b) = may at *
    generalize mayE rs (a + b) = mayEr at *
    refine zE ?_
    refine zA ?_
    refine zA ?_
    refine zB ?_
    refine wl_reset [(3, .pointer (some ⟨b3, 0, none⟩)), (9, .pointer (some ⟨b9, 0, none⟩)), (11, .pointer (some ⟨b11, 0, none⟩)), (12, .int .i64 0), (13, .pointer (some ⟨b13, 0, none⟩)), (14, .int .i64 mayEr), (15, .pointer (some ⟨b15, 0, none⟩)), (16, .int .i64 mayEr)]
      [⟨b3, 24, [slv p rs.length cap], true, none⟩, A2, B2, ⟨b9, 24, [slv q2 x.length cq2], true, none⟩, A3, B3, ⟨b11, 24, [slv q3 rs.length cq3], true, none⟩, A4, B4, ⟨b13, 24, [slv q4 may.length cq4], true, none⟩, A5, B5, ⟨b15, 24, [slv q5 may.length cq5], true, none⟩] ⟨rfl, rfl, rfl, rfl, rfl, rfl, rfl, rfl, trivial⟩ [0, 1, 2, 3, 4, 5, 6, 7, 8, 9, 10, 11, 12] (by decide) rfl ?_
    refine wl_pure Tryz.hT rfl rfl rfl ?_
    refine wl_pure Tryz.hT rfl rfl rfl ?_
    refine wl_upd 91 (.bool false) rfl (congrArg Value.bool (by decide)) ?_
    refine wl_pure Tryz.hT rfl rfl rfl ?_
    refine wl_loadBx 6 Tryz.hT rfl rfl rfl rfl rfl rfl rfl rfl ?_
    refine wl_loadBx 0 Tryz.hT rfl rfl rfl rfl rfl rfl rfl rfl ?_
    refine wl_call1 rfl rfl rfl rfl rfl rfl (by kernel_rfl) (fun W hp => (same_gives W q3 p cq3 cap rs rs hn2 hl2 (hr3 hp 4 5 rfl rfl) (hR.hp hp)).cast (by rw [decide_eq_true rfl])) ?_
    refine wl_pure Tryz.hT rfl rfl rfl ?_
    refine wl_pure Tryz.hT rfl rfl rfl ?_
    refine wl_pure Tryz.hT rfl rfl rfl ?_
    refine wl_pure Tryz.hT rfl rfl rfl ?_
    refine wl_pure Tryz.hT rfl rfl rfl ?_
    refine wl_pure Tryz.hT rfl rfl rfl ?_
    refine wl_upd 101 (.bool false) rfl (congrArg Value.bool (by simp)) ?_
    refine wl_pure Tryz.hT rfl rfl rfl ?_
    refine wl_pure Tryz.hT rfl rfl rfl ?_
    refine wl_loadBx 9 Tryz.hT rfl rfl rfl rfl rfl rfl rfl rfl ?_
    refine wl_loadBx 12 Tryz.hT rfl rfl rfl rfl rfl rfl rfl rfl ?_
    refine wl_call1 rfl rfl rfl rfl rfl rfl (by kernel_rfl) (fun W hp => (same_gives W q4 q5 cq4 cq5 may may (by omega) hmt (hr4 hp 7 8 rfl rfl) (hr5 hp 10 11 rfl rfl)).cast (by rw [decide_eq_true rfl])) ?_
    refine wl_pure Tryz.hT rfl rfl rfl ?_
    refine wl_pure Tryz.hT rfl rfl rfl ?_
    refine wl_pure Tryz.hT rfl rfl rfl ?_
    refine wl_loadBx 3 Tryz.hT rfl rfl rfl rfl rfl rfl rfl rfl ?_
    refine wl_call1 rfl rfl rfl rfl rfl rfl (by kernel_rfl) (fun W hp => (check_gives W q2 cq2 x (by omega) (by omega) (hr2 hp 1 2 rfl rfl)).cast (by rw [hcx])) ?_
    refine wl_pure Tryz.hT rfl rfl rfl ?_
    refine wl_pure Tryz.hT rfl rfl rfl ?_
    refine wl_nil ?_
    refine zE ?_
    refine zS rfl ?_
    refine zI ?_
    refine zE ?_
    refine zA ?_
    refine zB ?_
    clear hmk1 hmk2 hmk3 hX4 hX5 hV1 hV2 hV3 hV1' hV2' hV3' eV1 eV2 eV3 eV4 eV5 hr1 hr3 hr4 hr5
    refine wl_reset [(3, .pointer (some ⟨b3, 0, none⟩)), (9, .pointer (some ⟨b9, 0, none⟩))] [⟨b3, 24, [slv p rs.length cap], true, none⟩, A2, B2, ⟨b9, 24, [slv q2 x.length cq2], true, none⟩] ⟨rfl, rfl, trivial⟩ [0, 1, 2, 3] (by decide) rfl ?_
    have hfl : rs.flatten.length = tot rs := flat_len rs
    refine wl_loadBx 0 Tryz.hT rfl rfl rfl rfl rfl rfl rfl rfl ?_
    refine wl_call1 rfl rfl rfl rfl rfl rfl (by kernel_rfl) (fun W hp => areaF_ok W p cap rs (by omega) (hR.hp hp) hc (ht.hp hp)) ?_
    refine wl_pure Tryz.hT rfl rfl rfl ?_
    refine wl_pure Tryz.hT rfl rfl rfl ?_
    refine wl_pure Tryz.hT rfl rfl rfl ?_
    refine wl_pure Tryz.hT rfl rfl rfl ?_
    refine wl_pure Tryz.hT rfl rfl rfl ?_
    refine wl_nil ?_
    refine zE ?_
    refine zA ?_
    refine zB ?_
    refine wl_loadBx 3 Tryz.hT rfl rfl rfl rfl rfl rfl rfl rfl ?_
    refine wl_call1 rfl rfl rfl rfl rfl rfl (by kernel_rfl) (fun W hp => (areaF_ok W q2 cq2 x (by omega) (hr2 hp 1 2 rfl rfl) hcx (ht.hp hp)).cast (by rw [hax])) ?_
    refine wl_pure Tryz.hT rfl rfl rfl ?_
    refine wl_pure Tryz.hT rfl rfl rfl ?_
    refine wl_pure Tryz.hT rfl rfl rfl ?_
    refine wl_pure Tryz.hT rfl rfl rfl ?_
    refine wl_pure Tryz.hT rfl rfl rfl ?_
    refine wl_nil ?_
    refine zE ?_
    refine zA ?_
    refine zA ?_
    refine zB ?_
    refine wl_pure Tryz.hT rfl rfl rfl ?_
    refine wl_pure Tryz.hT rfl rfl rfl ?_
    refine wl_upd 125 (.bool false) rfl (congrArg Value.bool (by decide)) ?_
    refine wl_pure Tryz.hT rfl rfl rfl ?_
    refine wl_pure Tryz.hT rfl rfl rfl ?_
    refine wl_pure Tryz.hT rfl rfl rfl ?_
    refine wl_upd 128 (.bool false) rfl (congrArg Value.bool (by decide)) ?_
    refine wl_pure Tryz.hT rfl rfl rfl ?_
    refine wl_pure Tryz.hT rfl rfl rfl ?_
    refine wl_pure Tryz.hT rfl rfl rfl ?_
    refine wl_pure Tryz.hT rfl rfl rfl ?_
    refine wl_pure Tryz.hT rfl rfl rfl ?_
    refine wl_upd 133 (.bool false) rfl (congrArg Value.bool (by simp)) ?_
    refine wl_pure Tryz.hT rfl rfl rfl ?_
    refine wl_nil ?_
    refine zE ?_
    refine zS rfl ?_
    refine zI ?_
    refine zE ?_
    refine zA ?_
    refine zB ?_
    refine wl_loadBx 0 Tryz.hT rfl rfl rfl rfl rfl rfl rfl rfl ?_
    refine wl_call (X := Vec) rfl rfl rfl rfl rfl rfl (by kernel_rfl) (fun W hp => sides_ok W p cap rs (by omega) (hR.hp hp) hc) ?_
    intro V6 hV6
    obtain ⟨b6, cq6, eV6, hrow6⟩ := Vec.sides hV6 (by omega)
    generalize V6.bx 42 (cellsOf rs.flatten) = A6 at *
    refine wl_upd 137 (.tuple #[slv (some ⟨b6, 0, none⟩) rs.flatten.length cq6, .int .i64 0]) rfl (congrArg (fun v => Value.tuple #[v, .int .i64 0]) eV6) ?_
    refine wl_pure Tryz.hT rfl rfl rfl ?_
    refine wl_pure Tryz.hT rfl rfl rfl ?_
    refine wl_pure Tryz.hT rfl rfl rfl ?_
    refine wl_pure Tryz.hT rfl rfl rfl ?_
    refine wl_pure Tryz.hT rfl rfl rfl ?_
    refine wl_nil ?_
    refine zE ?_
    refine zA ?_
    refine zB ?_
    refine wl_loadBx 3 Tryz.hT rfl rfl rfl rfl rfl rfl rfl rfl ?_
    refine wl_call (X := Vec) rfl rfl rfl rfl rfl rfl (by kernel_rfl) (fun W hp => sides_ok W q2 cq2 x (by omega) (hr2 hp 1 2 rfl rfl) hcx) ?_
    intro V7 hV7
    obtain ⟨b7, cq7, eV7, hrow7⟩ := Vec.sides hV7 (by omega)
    generalize V7.bx 42 (cellsOf x.flatten) = A7 at *
    refine wl_upd 142 (.tuple #[slv (some ⟨b7, 0, none⟩) x.flatten.length cq7, .int .i64 0]) rfl (congrArg (fun v => Value.tuple #[v, .int .i64 0]) eV7) ?_
    refine wl_pure Tryz.hT rfl rfl rfl ?_
    refine wl_pure Tryz.hT rfl rfl rfl ?_
    refine wl_pure Tryz.hT rfl rfl rfl ?_
    refine wl_pure Tryz.hT rfl rfl rfl ?_
    refine wl_pure Tryz.hT rfl rfl rfl ?_
    refine wl_nil ?_
    refine zE ?_
    refine zA ?_
    refine zA ?_
    refine zB ?_
    refine wl_pure Tryz.hT rfl rfl rfl ?_
    refine wl_pure Tryz.hT rfl rfl rfl ?_
    refine wl_upd 146 (.bool false) rfl (congrArg Value.bool (by decide)) ?_
    refine wl_pure Tryz.hT rfl rfl rfl ?_
    refine wl_pure Tryz.hT rfl rfl rfl ?_
    refine wl_pure Tryz.hT rfl rfl rfl ?_
    refine wl_upd 149 (.bool false) rfl (congrArg Value.bool (by decide)) ?_
    refine wl_pure Tryz.hT rfl rfl rfl ?_
    refine wl_pure Tryz.hT rfl rfl rfl ?_
    refine wl_pure Tryz.hT rfl rfl rfl ?_
    refine wl_pure Tryz.hT rfl rfl rfl ?_
    refine wl_pure Tryz.hT rfl rfl rfl ?_
    refine wl_pure Tryz.hT rfl rfl rfl ?_
    refine wl_pure Tryz.hT rfl rfl rfl ?_
    refine wl_upd 156 (.bool false) rfl (congrArg Value.bool (by show (((rs.flatten.length : Nat) : Int) != ((x.flatten.length : Nat) : Int)) = false; rw [hfx]; simp)) ?_
    refine wl_pure Tryz.hT rfl rfl rfl ?_
    refine wl_nil ?_
    refine zE ?_
    refine zS rfl ?_
    refine zI ?_
    refine zE ?_
    refine zA ?_
    refine zA ?_
    refine zB ?_
    refine wl_pure Tryz.hT rfl rfl rfl ?_
    refine wl_pure Tryz.hT rfl rfl rfl ?_
    refine wl_pure Tryz.hT rfl rfl rfl ?_
    refine wl_nil ?_
    refine zE ?_
    refine zH ?_
    refine wc_loop (X := Nat) (fun k => [(3, .pointer (some ⟨b3, 0, none⟩)), (9, .pointer (some ⟨b9, 0, none⟩)), (19, slv (some ⟨b6, 0, none⟩) rs.flatten.length cq6), (20, slv (some ⟨b7, 0, none⟩) x.flatten.length cq7), (159, .int .i64 (rs.flatten.length : Nat)), (160, .int .i64 (k : Nat))])
      (fun _ => [⟨b3, 24, [slv p rs.length cap], true, none⟩, A2, B2, ⟨b9, 24, [slv q2 x.length cq2], true, none⟩, A6, A7]) (fun k => k ≤ rs.flatten.length) (fun k => rs.flatten.length - k) 0 (Nat.zero_le _) ⟨rfl, rfl, rfl, rfl, rfl, rfl, trivial⟩ [] rfl ?_
    intro k hk
    refine zA ?_
    refine zB ?_
    refine wl_pure Tryz.hT rfl rfl rfl ?_
    refine wl_nil ?_
    refine zE ?_
    refine zA ?_
    refine wc_cond rfl (fun h => ?_) (fun h => ?_)
    rotate_left
    · refine zJ ?_
      refine zK ?_
      refine zK ?_
      refine zL ?_
      refine zE ?_
      refine zA ?_
      refine zB ?_
      refine wl_call1 rfl rfl rfl rfl rfl rfl (by kernel_rfl) (fun W hp => awake_gives W (ht.hp hp)) ?_
      refine wl_pure Tryz.hT rfl rfl rfl ?_
      refine wl_nil ?_
      refine zE ?_
      refine zO ?_
      exact ne_ret1 Tryz.hT rfl (.tmp rfl) () rfl trivial fun W _ => NewBx.nil _ _
    have hk : k < rs.flatten.length := by have h' : decide ((k : Int) < (rs.flatten.length : Nat)) = true := h; rw [decide_eq_true_iff] at h'; omega
    clear h
    have hkx : k < x.flatten.length := by omega
    obtain ⟨bb, e1, e2⟩ := hvx k (by omega) (by omega)
    refine zI ?_
    refine zE ?_
    refine zA ?_
    refine zH ?_
    refine zA ?_
    refine zB ?_
    refine wl_pure Tryz.hT rfl rfl rfl ?_
    refine wl_pure Tryz.hT rfl rfl rfl ?_
    refine wl_nil ?_
    refine zE ?_
    refine zA ?_
    refine zB ?_
    refine wl_loadBx 0 Tryz.hT rfl rfl rfl rfl rfl rfl rfl rfl ?_
    refine wl_pure Tryz.hT rfl rfl rfl ?_
    refine wl_call1 rfl rfl rfl rfl rfl rfl (by kernel_rfl) (fun W hp => (convex_ok W p cap rs k (by omega) (hR.hp hp) hc).cast e2) ?_
    refine wl_pure Tryz.hT rfl rfl rfl ?_
    refine wl_pure Tryz.hT rfl rfl rfl ?_
    refine wl_pure Tryz.hT rfl rfl rfl ?_
    refine wl_pure Tryz.hT rfl rfl rfl ?_
    refine wl_pure Tryz.hT rfl rfl rfl ?_
    refine wl_nil ?_
    refine zE ?_
    refine zA ?_
    refine zB ?_
    refine wl_loadBx 3 Tryz.hT rfl rfl rfl rfl rfl rfl rfl rfl ?_
    refine wl_pure Tryz.hT rfl rfl rfl ?_
    refine wl_call1 rfl rfl rfl rfl rfl rfl (by kernel_rfl) (fun W hp => (convex_ok W q2 cq2 x k (by omega) (hr2 hp 1 2 rfl rfl) hcx).cast e1) ?_
    refine wl_pure Tryz.hT rfl rfl rfl ?_
    refine wl_pure Tryz.hT rfl rfl rfl ?_
    refine wl_pure Tryz.hT rfl rfl rfl ?_
    refine wl_pure Tryz.hT rfl rfl rfl ?_
    refine wl_pure Tryz.hT rfl rfl rfl ?_
    refine wl_nil ?_
    refine zE ?_
    refine wc_seq ?_
    refine wc_lateS (X := Nat × Nat) (fun y => [(3, .pointer (some ⟨b3, 0, none⟩)), (9, .pointer (some ⟨b9, 0, none⟩)), (19, slv (some ⟨b6, 0, none⟩) rs.flatten.length cq6), (20, slv (some ⟨b7, 0, none⟩) x.flatten.length cq7), (159, .int .i64 (rs.flatten.length : Nat)), (160, .int .i64 (k : Nat)), (22, .bool bb), (23, .int .i64 0), (24, .bool bb), (25, .int .i64 0), (26, .pointer (some ⟨y.1, 0, none⟩)), (27, .pointer (some ⟨y.2, 0, none⟩))])
      (fun y => [⟨b3, 24, [slv p rs.length cap], true, none⟩, A2, B2, ⟨b9, 24, [slv q2 x.length cq2], true, none⟩, A6, A7, ⟨y.1, 42, (sd rs.flatten k).cells, true, none⟩, ⟨y.2, 42, (sd x.flatten k).cells, true, none⟩]) 4 Tryz.mixed (by kernel_rfl) ?_ ?_
    · refine wq_pure Tryz.hT rfl rfl rfl ?_
      refine wq_pure Tryz.hT rfl rfl rfl ?_
      refine wq_indexAddr Tryz.hT rfl rfl rfl rfl rfl rfl rfl (by omega) (by omega) ?_
      refine wq_load rfl rfl rfl rfl (fun W hp => RowAt.load 0 Tryz.hT rfl ((fun W hp => (hrow6 hp 4 rfl k hk)) W hp) rfl) ?_
      refine wq_pure Tryz.hT rfl rfl rfl ?_
      refine wq_pure Tryz.hT rfl rfl rfl ?_
      refine wq_indexAddr Tryz.hT rfl rfl rfl rfl rfl rfl rfl (by omega) (by omega) ?_
      refine wq_load rfl rfl rfl rfl (fun W hp => RowAt.load 0 Tryz.hT rfl ((fun W hp => (hrow7 hp 5 rfl k hkx)) W hp) rfl) ?_
      refine wq_wt ?_
      refine wt_step rfl rfl (by ((repeat (first | refine Weak.same ?_ | refine Weak.off rfl ?_)); exact trivial)) ?_
      refine RS.cons ?_ (RS.cons ?_ (RS.nil))
      · refine wl_allocZ Tryz.hZ rfl rfl rfl rfl ?_; intro b26
        refine wl_nil ?_
        refine ne_wt ?_
        refine wt_step rfl rfl (by ((repeat (first | refine Weak.same ?_ | refine Weak.off rfl ?_)); exact trivial)) ?_
        refine RS.cons ?_ (RS.nil)
        refine wl_allocZ Tryz.hZ rfl rfl rfl rfl ?_; intro b27
        refine wl_nil ?_
        refine ne_wt ?_
        refine wt_step rfl rfl (by ((repeat (first | refine Weak.same ?_ | refine Weak.off rfl ?_)); exact trivial)) ?_
        refine RS.cons ?_ (RS.nil)
        refine wl_storeBx 6 Tryz.hT rfl rfl rfl rfl rfl rfl rfl rfl rfl rfl rfl ?_
        refine wl_nil ?_
        refine ne_wt ?_
        refine wt_step rfl rfl (by ((repeat (first | refine Weak.same ?_ | refine Weak.off rfl ?_)); exact trivial)) ?_
        refine RS.cons ?_ (RS.nil)
        refine wl_storeBx 7 Tryz.hT rfl rfl rfl rfl rfl rfl rfl rfl rfl rfl rfl ?_
        refine wl_nil ?_
        refine ne_wt ?_
        (first | refine wt_done rfl (by ((repeat (first | refine Weak.same ?_ | refine Weak.off rfl ?_)); exact trivial)) ?_ | refine wt_doneF rfl (by kernel_rfl) ?_); (first | exact ne_late (b26, b27) ⟨rfl, rfl, rfl, rfl, rfl, rfl, rfl, rfl, rfl, rfl, rfl, rfl, trivial⟩ [0, 1, 2, 3, 4, 5, 6, 7] (by decide) rfl | exact ne_late (b26, b27) ⟨rfl, rfl, rfl, rfl, rfl, rfl, rfl, rfl, rfl, rfl, rfl, rfl, trivial⟩ [0, 1, 2, 3, 4, 5, 7, 6] (by decide) rfl)
      · refine wl_allocZ Tryz.hZ rfl rfl rfl rfl ?_; intro b27
        refine wl_nil ?_
        refine ne_wt ?_
        refine wt_step rfl rfl (by ((repeat (first | refine Weak.same ?_ | refine Weak.off rfl ?_)); exact trivial)) ?_
        refine RS.cons ?_ (RS.nil)
        refine wl_allocZ Tryz.hZ rfl rfl rfl rfl ?_; intro b26
        refine wl_nil ?_
        refine ne_wt ?_
        refine wt_step rfl rfl (by ((repeat (first | refine Weak.same ?_ | refine Weak.off rfl ?_)); exact trivial)) ?_
        refine RS.cons ?_ (RS.nil)
        refine wl_storeBx 7 Tryz.hT rfl rfl rfl rfl rfl rfl rfl rfl rfl rfl rfl ?_
        refine wl_nil ?_
        refine ne_wt ?_
        refine wt_step rfl rfl (by ((repeat (first | refine Weak.same ?_ | refine Weak.off rfl ?_)); exact trivial)) ?_
        refine RS.cons ?_ (RS.nil)
        refine wl_storeBx 6 Tryz.hT rfl rfl rfl rfl rfl rfl rfl rfl rfl rfl rfl ?_
        refine wl_nil ?_
        refine ne_wt ?_
        (first | refine wt_done rfl (by ((repeat (first | refine Weak.same ?_ | refine Weak.off rfl ?_)); exact trivial)) ?_ | refine wt_doneF rfl (by kernel_rfl) ?_); (first | exact ne_late (b26, b27) ⟨rfl, rfl, rfl, rfl, rfl, rfl, rfl, rfl, rfl, rfl, rfl, rfl, trivial⟩ [0, 1, 2, 3, 4, 5, 6, 7] (by decide) rfl | exact ne_late (b26, b27) ⟨rfl, rfl, rfl, rfl, rfl, rfl, rfl, rfl, rfl, rfl, rfl, rfl, trivial⟩ [0, 1, 2, 3, 4, 5, 7, 6] (by decide) rfl)
    rintro ⟨b26, b27⟩
    refine zE ?_
    refine zA ?_
    refine zB ?_
    refine wl_pure Tryz.hT rfl rfl rfl ?_
    refine wl_storeBx 6 Tryz.hT rfl rfl rfl rfl rfl rfl rfl rfl rfl rfl rfl ?_
    refine wl_pure Tryz.hT rfl rfl rfl ?_
    refine wl_storeBx 6 Tryz.hT rfl rfl rfl rfl rfl rfl rfl rfl rfl rfl rfl ?_
    refine wl_pure Tryz.hT rfl rfl rfl ?_
    refine wl_storeBx 7 Tryz.hT rfl rfl rfl rfl rfl rfl rfl rfl rfl rfl rfl ?_
    refine wl_pure Tryz.hT rfl rfl rfl ?_
    refine wl_storeBx 7 Tryz.hT rfl rfl rfl rfl rfl rfl rfl rfl rfl rfl rfl ?_
    refine wl_nil ?_
    refine zE ?_
    refine zA ?_
    refine zB ?_
    refine wl_pure Tryz.hT rfl rfl rfl ?_
    refine wl_pure Tryz.hT rfl rfl rfl ?_
    refine wl_upd 188 (.bool false) rfl (congrArg Value.bool (by decide)) ?_
    refine wl_pure Tryz.hT rfl rfl rfl ?_
    refine wl_pure Tryz.hT rfl rfl rfl ?_
    refine wl_pure Tryz.hT rfl rfl rfl ?_
    refine wl_upd 191 (.bool false) rfl (congrArg Value.bool (by decide)) ?_
    refine wl_pure Tryz.hT rfl rfl rfl ?_
    refine wl_pure Tryz.hT rfl rfl rfl ?_
    refine wl_pure Tryz.hT rfl rfl rfl ?_
    refine wl_pure Tryz.hT rfl rfl rfl ?_
    refine wl_eqB Tryz.underlying4 rfl rfl rfl rfl rfl rfl ?_
    refine wl_upd 196 (.bool false) rfl (congrArg Value.bool (by simp)) ?_
    refine wl_pure Tryz.hT rfl rfl rfl ?_
    refine wl_pure Tryz.hT rfl rfl rfl ?_
    refine wl_loadBx 6 Tryz.hT rfl rfl rfl rfl rfl rfl rfl rfl ?_
    refine wl_loadBx 7 Tryz.hT rfl rfl rfl rfl rfl rfl rfl rfl ?_
    refine wl_neqSd (s := bare (sd rs.flatten k)) (t := bare (sd x.flatten k)) rfl rfl rfl rfl rfl ?_
    refine wl_upd 201 (.bool false) rfl (congrArg Value.bool (by rw [decide_eq_true (hsx k hk).symm]; rfl)) ?_
    refine wl_pure Tryz.hT rfl rfl rfl ?_
    refine wl_nil ?_
    refine zE ?_
    refine zS rfl ?_
    refine zI ?_
    refine zN ?_
    refine zE ?_
    refine zB ?_
    refine wl_pure Tryz.hT rfl rfl rfl ?_
    refine wl_pure Tryz.hT rfl rfl rfl ?_
    refine wl_nil ?_
    exact ne_loop (k + 1) hk (by omega) ⟨rfl, rfl, rfl, rfl, rfl, congrArg (fun z => some (Value.int .i64 z)) (wrap_id (x := (k : Int) + 1) (by omega) (by omega)), trivial⟩ [_, _] rfl
end Go.Proofs.YtnpfkmbcejgnjaaGreatDoor
