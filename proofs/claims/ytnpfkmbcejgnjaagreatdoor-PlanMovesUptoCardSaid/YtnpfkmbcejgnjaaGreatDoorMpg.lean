/-
  Lemmas that the theorem planMoves_upto_card needs (part 7 of 7).
-/
import Derived.Test.YtnpfkmbcejgnjaaGreatDoorMpf
import Derived.Test.YtnpfkmbcejgnjaaGreatDoorCards
import Derived.Test.YtnpfkmbcejgnjaaGreatDoorTie
import Derived.ProofKit
import Derived.OpenShut
import Derived.Deep.DeepHandedRow
import Derived.Lib.LaidTab
import Derived.Stop.LaidErr
import Derived.Lay
import Derived.SevenTiedAt
import Derived.Shelf.Vars
namespace Go.Proofs.YtnpfkmbcejgnjaaGreatDoor
open Go Go.RowKit Go.Am Go.Lib
set_option maxRecDepth 10000
-- BOXES 2
-- BOXIDX t5=0 t11=3 t13=6 t15=9 t17=12 t19=16 t22=20 t29=23 t31=26
/-- What Canonical gives. -/
def canO (rs : List (List Sd)) : List (List Sd) × List Int × Int := if chk rs = 0 then (canR rs, numsOf rs, 0) else ([], [], 1)
abbrev OutC (f : Nat) (args : Array Value) (W : World) (o : List (List Sd) × List Int × Int) : Prop :=
  CallsR Tryz.prog f args W (fun x : Vec × Made × Vec => .tuple #[.agg #[x.1.val o.1.length], x.2.2.val o.2.1.length, .int .i64 o.2.2]) (fun x => (MadeOK x.2.1 o.1 ∧ x.1.OK 1 o.1.length (rowCells x.2.1)) ∧ x.2.2.OK 1 o.2.1.length (ci o.2.1)) (fun x => [x.1.bx 27 (rowCells x.2.1), mkB x.2.1, x.2.2.bx 3 (ci o.2.1)])
theorem own_no3 (n : Nat) (W : World) : Go.Am.Own n [gone, mkB [], gone] W := by
  have hb : ∀ (k : Nat) (B : Bx), [gone, mkB [], gone][k]? = some B → B.blk = [] := fun k B h => by
    match k with
    | 0 => injection h with h; rw [← h]; rfl
    | 1 => injection h with h; rw [← h]; rfl
    | 2 => injection h with h; rw [← h]; rfl
    | k + 3 => cases h
  refine ⟨fun k B h p hp => ?_, fun k B h => ?_, fun i j B C h _ _ p hp => ?_⟩
  · rw [hb k B h] at hp; cases hp
  · rw [hb k B h]; exact List.nodup_nil
  · rw [hb i B h] at hp; cases hp
theorem outC_err {f : Nat} {args : Array Value} {W : World} {rs : List (List Sd)} (hc : chk rs ≠ 0) (h : CallsR Tryz.prog f args W (fun _ : Unit => .tuple #[noPlan, .slice none 0 0, .int .i64 1]) (fun _ => True) (fun _ => [])) : OutC f args W (canO rs) := by
  have e : canO rs = ([], [], 1) := by unfold canO; rw [if_neg hc]
  rw [e]
  exact ⟨h.out.mono fun e W' ⟨_, he, _, hb, _⟩ => ⟨(Vec.empty, [], Vec.empty), he, ⟨⟨⟨rfl, fun p hp => by cases hp⟩, Vec.OK.empty 1⟩, Vec.OK.empty 1⟩, hb, own_no3 _ _⟩⟩
theorem canonP_no (W : World) (p : Option Addr) (cap : Nat) (rs : List (List Sd)) (hn : rs.length < 1099511627776) (hT : tot rs < 1099511627776) (hR : RingsP W p rs) (hc : chk rs ≠ 0) :
    CallsR Tryz.prog 38 #[planV p rs.length cap] W (fun _ : Unit => .tuple #[noPlan, .slice none 0 0, .int .i64 1]) (fun _ => True) (fun _ => []) := by
  refine calls_enter (args := [planV p rs.length cap]) Tryz.func38 rfl rfl rfl ?_
  refine zA ?_
  refine zB ?_
  (refine wl_box rfl rfl rfl rfl ?_; intro)
  (refine wl_allocZ Tryz.hZ rfl rfl rfl rfl ?_; intro)
  iterate 2 refine wl_pure Tryz.hT rfl rfl rfl ?_
  refine wl_nil ?_
  rename_i b1 b2
  refine zE ?_
  iterate 2 refine zA ?_
  refine zB ?_
  refine wl_loadBx 0 Tryz.hT rfl rfl rfl rfl rfl rfl rfl rfl ?_
  refine wl_call1 rfl rfl rfl rfl rfl rfl (by kernel_rfl) (fun W hp => check_gives W p cap rs (by omega) hT (hR.hp hp)) ?_
  refine wl_pure Tryz.hT rfl rfl rfl ?_
  refine wl_nil ?_
  refine zE ?_
  refine wc_cond rfl (fun h => ?_) (fun h => ?_)
  · refine zA ?_
    refine zB ?_
    refine wl_buildZ Tryz.hZ Tryz.hT rfl rfl rfl rfl rfl rfl rfl rfl ?_
    refine wl_storeBx 1 Tryz.hT rfl rfl rfl rfl rfl rfl rfl rfl rfl rfl rfl ?_
    iterate 2 refine wl_pure Tryz.hT rfl rfl rfl ?_
    refine wl_nil ?_
    refine zE ?_
    refine zO ?_
    refine zP ?_
    exact ne_ret3 Tryz.hT rfl (.cell 1 rfl rfl rfl rfl rfl) (.tmp rfl) (.tmp rfl) () rfl trivial fun W _ => NewBx.nil _ _
  · exact absurd (show chk rs = 0 by have h' : (chk rs != 0) = false := h; simpa using h') hc
theorem canonR_no (W : World) (p : Option Addr) (cap : Nat) (rs : List (List Sd)) (hn : rs.length < 1099511627776) (hT : tot rs < 1099511627776) (hR : RingsP W p rs) (hc : chk rs ≠ 0) :
    CallsR Tryz.prog 43 #[planV p rs.length cap] W (fun _ : Unit => .tuple #[noPlan, .slice none 0 0, .int .i64 1]) (fun _ => True) (fun _ => []) := by
  refine calls_enter (args := [planV p rs.length cap]) Tryz.func43 rfl rfl rfl ?_
  refine zA ?_
  refine zB ?_
  (refine wl_box rfl rfl rfl rfl ?_; intro)
  (refine wl_allocZ Tryz.hZ rfl rfl rfl rfl ?_; intro)
  iterate 2 refine wl_pure Tryz.hT rfl rfl rfl ?_
  refine wl_nil ?_
  rename_i b1 b2
  refine zE ?_
  iterate 2 refine zA ?_
  refine zB ?_
  refine wl_loadBx 0 Tryz.hT rfl rfl rfl rfl rfl rfl rfl rfl ?_
  refine wl_call1 rfl rfl rfl rfl rfl rfl (by kernel_rfl) (fun W hp => refChk_gives W p cap rs (by omega) hT (hR.hp hp)) ?_
  refine wl_pure Tryz.hT rfl rfl rfl ?_
  refine wl_nil ?_
  refine zE ?_
  refine wc_cond rfl (fun h => ?_) (fun h => ?_)
  · refine zA ?_
    refine zB ?_
    refine wl_buildZ Tryz.hZ Tryz.hT rfl rfl rfl rfl rfl rfl rfl rfl ?_
    refine wl_storeBx 1 Tryz.hT rfl rfl rfl rfl rfl rfl rfl rfl rfl rfl rfl ?_
    iterate 2 refine wl_pure Tryz.hT rfl rfl rfl ?_
    refine wl_nil ?_
    refine zE ?_
    refine zO ?_
    refine zP ?_
    exact ne_ret3 Tryz.hT rfl (.cell 1 rfl rfl rfl rfl rfl) (.tmp rfl) (.tmp rfl) () rfl trivial fun W _ => NewBx.nil _ _
  · exact absurd (show chk rs = 0 by have h' : (chk rs != 0) = false := h; simpa using h') hc
theorem canonP_gives (W : World) (p : Option Addr) (cap : Nat) (rs : List (List Sd)) (hn : rs.length < 1099511627776) (hT : tot rs < 1099511627776) (hR : RingsP W p rs) (h12 : chk rs = 0 → tot rs ≤ 12) : OutC 38 #[planV p rs.length cap] W (canO rs) := by
  by_cases hc : chk rs = 0
  · have e : canO rs = (canR rs, numsOf rs, 0) := by unfold canO; rw [if_pos hc]
    rw [e]
    have h0 := (chk_ne hc).2.2
    refine ⟨(canonical_gives W p cap rs hn hR hc (h12 hc)).out.mono fun e W' ⟨⟨V, mk, bN⟩, he, hx, hb, hw⟩ => ⟨(V, mk, ⟨some bN, tot rs, []⟩), he.trans ?_, ⟨hx, ?_⟩, hb, ?_⟩⟩
    · show (_ : Ending) = .returned (.tuple #[_, .slice (some ⟨bN, 0, none⟩) (numsOf rs).length (tot rs), _])
      rw [numsOf_len]
    · exact ⟨ci_length _, fun h => (by cases h), fun _ => ⟨by show (numsOf rs).length ≤ tot rs; rw [numsOf_len]; exact Nat.le_refl _, by show tot rs ≤ maxLen; simp only [maxLen]; omega, by rw [ci_length, numsOf_len]; rfl⟩⟩
    · have e2 : [V.bx 27 (rowCells mk), mkB mk, (⟨some bN, tot rs, []⟩ : Vec).bx 3 (ci (numsOf rs))] = [V.bx 27 (rowCells mk), mkB mk, ⟨bN, 3, ci (numsOf rs), true, none⟩] := by show [_, _, (⟨bN, 3, ci (numsOf rs) ++ [], true, none⟩ : Bx)] = _; rw [List.append_nil]
      show NewBx W W' [V.bx 27 (rowCells mk), mkB mk, (⟨some bN, tot rs, []⟩ : Vec).bx 3 (ci (numsOf rs))]
      rw [e2]; exact hw
  · exact outC_err hc (canonP_no W p cap rs hn hT hR hc)
theorem canonR_gives (W : World) (p : Option Addr) (cap : Nat) (rs : List (List Sd)) (hn : rs.length < 1099511627776) (hT : tot rs < 1099511627776) (hR : RingsP W p rs) (hroom : RoomP W p rs.length) (h12 : chk rs = 0 → tot rs ≤ 12) : OutC 43 #[planV p rs.length cap] W (canO rs) := by
  by_cases hc : chk rs = 0
  · have e : canO rs = (canR rs, numsOf rs, 0) := by unfold canO; rw [if_pos hc]
    rw [e]
    refine ⟨(canonR_ok W p cap rs hn hR hroom hc (h12 hc)).out.mono fun e W' ⟨⟨V, mk, U⟩, he, ⟨hx, hU⟩, hb, hw⟩ => ⟨(V, mk, U), he.trans ?_, ⟨hx, ?_⟩, hb, hw⟩⟩
    · show Ending.returned (.tuple #[_, U.val (tot rs), _]) = .returned (.tuple #[_, U.val (numsOf rs).length, _])
      rw [numsOf_len]
    · show U.OK 1 (numsOf rs).length _
      rw [numsOf_len]; exact hU
  · exact outC_err hc (canonR_no W p cap rs hn hT hR hc)
theorem room_hp {W0 W : World} {bxs : List Bx} {p : Option Addr} {rs : List (List Sd)} (h : RoomP W0 p rs.length) (hp : Hp W0 bxs W) (hR : RingsP W0 p rs) : RoomP W p rs.length := fun b off e k q m c hk hx => by
  obtain ⟨b1, o1, e1, hrow⟩ := hR.row hk
  rw [e] at e1
  cases e1
  obtain ⟨q1, c1, hq1, _⟩ := hrow k hk
  have hle := h b off e k q1 _ c1 hk hq1
  have h1 := (hq1.hp hp).get 0 _ rfl
  have h2 := hx.get 0 _ rfl
  rw [h1] at h2
  have h3 := Option.some.inj h2
  injection h3 with _ h4 h5
  omega
/-- A row of numbers in memory. -/
def NumsP (W : World) (p : Option Addr) (l : List Int) : Prop := l = [] ∨ ∃ b off, p = some ⟨b, off, none⟩ ∧ RowAt W b off (ci l)
theorem vec_nums {l : List Int} {V : Vec} (hV : V.OK 1 l.length (ci l)) : ∃ p cap, V.val l.length = slv p l.length cap ∧ ∀ {W0 W : World} {bxs : List Bx}, Hp W0 bxs W → ∀ k, nth bxs k = some (V.bx 3 (ci l)) → NumsP W p l := by
  obtain ⟨p, cap, junk⟩ := V
  cases p with
  | none =>
    have h0 := hV.nil rfl
    exact ⟨none, 0, by rw [h0]; rfl, fun _ _ _ => .inl (List.length_eq_zero_iff.1 h0)⟩
  | some g =>
    refine ⟨some ⟨g, 0, none⟩, cap, rfl, fun hp k hk => .inr ⟨g, 0, rfl, ?_⟩⟩
    have h := RowAt.of_bx hp k hk rfl
    exact ⟨h.lt, fun j u hu => h.get j u (by show (ci l ++ junk)[j]? = _; rw [List.getElem?_append_left (List.getElem?_eq_some_iff.1 hu).1]; exact hu)⟩
theorem equalI_gives (W : World) (p q : Option Addr) (cap caq : Nat) (l : List Int) (hn : l.length < 4611686018427387904) (hR : NumsP W p l) (hS : NumsP W q l) :
    CallsR Tryz.prog 46 #[slv p l.length cap, slv q l.length caq] W (fun _ : Unit => .bool true) (fun _ => True) (fun _ => []) := by
  refine calls_enter (args := [slv p l.length cap, slv q l.length caq]) Tryz.func46 rfl rfl rfl ?_
  refine zA ?_
  refine zB ?_
  refine wl_pure Tryz.hT rfl rfl rfl ?_
  refine wl_nil ?_
  refine zE ?_
  iterate 2 refine zA ?_
  refine zB ?_
  iterate 5 refine wl_pure Tryz.hT rfl rfl rfl ?_
  refine wl_upd 10 (.bool false) rfl (congrArg Value.bool (show (((l.length : Nat) : Int) != ((l.length : Nat) : Int)) = false by simp)) ?_
  refine wl_nil ?_
  refine zE ?_
  refine zS rfl ?_
  refine zI ?_
  refine zE ?_
  iterate 2 refine zA ?_
  refine zB ?_
  iterate 3 refine wl_pure Tryz.hT rfl rfl rfl ?_
  refine wl_nil ?_
  refine zE ?_
  refine zH ?_
  refine wc_loop (X := Nat) (fun k => [(0, slv p l.length cap), (1, slv q l.length caq), (12, .int .i64 (l.length : Nat)), (13, .int .i64 (k : Nat))]) (fun _ => []) (fun k => k ≤ l.length) (fun k => l.length - k) 0 (Nat.zero_le _) ⟨rfl, rfl, rfl, rfl, trivial⟩ [] rfl ?_
  intro k hk
  refine zA ?_
  refine zB ?_
  refine wl_pure Tryz.hT rfl rfl rfl ?_
  refine wl_nil ?_
  refine zE ?_
  refine zA ?_
  refine wc_cond rfl (fun h => ?_) (fun h => ?_)
  rotate_left
  · refine zJ ?_
    iterate 2 refine zK ?_
    refine zL ?_
    refine zE ?_
    refine zA ?_
    refine zB ?_
    refine wl_pure Tryz.hT rfl rfl rfl ?_
    refine wl_nil ?_
    refine zE ?_
    refine zO ?_
    exact ne_ret1 Tryz.hT rfl (.tmp rfl) () rfl trivial fun W _ => NewBx.nil _ _
  have hk : k < l.length := by simp at h; omega
  clear h
  have hrow : ∀ {W p}, NumsP W p l → ∃ b off, p = some ⟨b, off, none⟩ ∧ RowAt W b (off + k * 1) [.int .i64 (l.getD k 0)] := fun {W p} h => by
    rcases h with h | ⟨b, off, e, h⟩
    · rw [h] at hk; exact absurd hk (Nat.not_lt_zero _)
    · refine ⟨b, off, e, h.lt, fun j u hu => ?_⟩
      have hj : j = 0 := by have := (List.getElem?_eq_some_iff.1 hu).1; simp at this; omega
      subst hj
      have hg := h.get k (.int .i64 (l.getD k 0)) (by rw [List.getElem?_map, List.getD_eq_getElem?_getD, List.getElem?_eq_getElem hk]; rfl)
      rw [Nat.mul_one, Nat.add_zero, hg]; exact hu
  obtain ⟨b, off, rfl, h1⟩ := hrow hR
  obtain ⟨b', off', rfl, h2⟩ := hrow hS
  refine zI ?_
  refine zE ?_
  refine zA ?_
  refine zH ?_
  refine zA ?_
  refine zB ?_
  iterate 2 refine wl_pure Tryz.hT rfl rfl rfl ?_
  refine wl_nil ?_
  refine zE ?_
  refine zA ?_
  refine zT Tryz.mixed (by kernel_rfl) ?_
  iterate 2 refine wq_pure Tryz.hT rfl rfl rfl ?_
  refine wq_indexAddr Tryz.hT rfl rfl rfl rfl rfl rfl rfl (by omega) (by omega) ?_
  refine wq_load rfl rfl rfl rfl (fun W hp => RowAt.load 0 Tryz.hT rfl ((fun W hp => h1.hp hp) W hp) rfl) ?_
  iterate 2 refine wq_pure Tryz.hT rfl rfl rfl ?_
  refine wq_indexAddr Tryz.hT rfl rfl rfl rfl rfl rfl rfl (by omega) (by omega) ?_
  refine wq_load rfl rfl rfl rfl (fun W hp => RowAt.load 0 Tryz.hT rfl ((fun W hp => h2.hp hp) W hp) rfl) ?_
  refine wq_pure Tryz.hT rfl rfl rfl ?_
  refine wq_upd 24 (.bool false) rfl (congrArg Value.bool (show (l.getD k 0 != l.getD k 0) = false by simp)) ?_
  refine wq_nil ?_
  refine wl_nil ?_
  refine zE ?_
  refine zS rfl ?_
  refine zI ?_
  refine zN ?_
  refine zE ?_
  refine zB ?_
  iterate 2 refine wl_pure Tryz.hT rfl rfl rfl ?_
  refine wl_nil ?_
  exact ne_loop (k + 1) hk (by omega) ⟨rfl, rfl, rfl, congrArg (fun z => some (Value.int .i64 z)) (wrap_id (x := (k : Int) + 1) (by omega) (by omega)), trivial⟩ [] rfl
/-- A plan that is given back is small. -/
def SmO (l : List (List Sd)) : Prop := l.length ≤ 100000 ∧ ∀ m ∈ l, m.length < 4611686018427387904
theorem smo_nil : SmO [] := ⟨Nat.zero_le _, fun m h => by cases h⟩
theorem smo_of {l rs : List (List Sd)} (hl : l.length = rs.length) (ht : tot l = tot rs) (h1 : rs.length ≤ 100000) (h2 : tot rs ≤ 100000) : SmO l := ⟨by omega, fun m h => by have := len_le_tot h; omega⟩
theorem smo_chk {rs : List (List Sd)} (hc : chk rs = 0) : SmO rs := by
  obtain ⟨hne, h24, _⟩ := chk_ne hc
  have := take_tot hne rs.length (Nat.le_refl _)
  rw [List.take_length] at this
  exact smo_of rfl rfl (by omega) (by omega)
theorem smo_rot (rs : List (List Sd)) (n : Int) (h1 : rs.length ≤ 40) (h2 : tot rs ≤ 40) : SmO (rotO rs n).1 := by
  unfold rotO
  split
  · exact smo_nil
  · split
    · exact smo_nil
    · exact smo_of (rotV_len _ _) (by unfold rotV; rw [tot_mvR, rotN_tot]) (by omega) (by omega)
theorem smo_sh (rs : List (List Sd)) (dx dy : Int) (h1 : rs.length ≤ 40) (h2 : tot rs ≤ 40) : SmO (shO rs dx dy).1 := by
  unfold shO
  split
  · exact smo_of (mvR_len _ _) (tot_mvR _ _) (by omega) (by omega)
  · exact smo_nil
theorem smo_can (rs : List (List Sd)) (h12 : chk rs = 0 → tot rs ≤ 12) : SmO (canO rs).1 ∧ (canO rs).2.1.length ≤ 40 := by
  unfold canO
  split
  · rename_i hc
    exact ⟨smo_chk (canR_chk hc (h12 hc)), by show (numsOf rs).length ≤ 40; rw [numsOf_len]; have := h12 hc; omega⟩
  · exact ⟨smo_nil, Nat.zero_le _⟩
theorem smo_txt (s : List UInt8) : SmO (outT s).1 := by
  unfold outT
  split
  · exact smo_nil
  · by_cases h : (outP s).2 = 0
    · obtain ⟨rs, e, hc, _⟩ := outP_ok h
      rw [e]; exact smo_chk hc
    · rw [outP_bad h]; exact smo_nil
set_option maxHeartbeats 16000000 in
theorem moves_gives (W : World) (p : Option Addr) (cap : Nat) (rs : List (List Sd)) (turns dx dy : Int) (s : List UInt8) (hn : rs.length < 1099511627776) (hT : tot rs < 1099511627776) (hR : RingsP W p rs) (hroom : RoomP W p rs.length) (ht : TabP W) (hv : VarsP W) :
    CallsR Tryz.prog 11 #[planV p rs.length cap, .int .i64 turns, .int .i64 dx, .int .i64 dy, str s] W (fun _ : Unit => .bool true) (fun _ => True) (fun _ => []) := by
  have hsz : (⟨s.toArray⟩ : ByteArray).size = s.length := by show s.toArray.size = _; simp
  refine calls_enter (args := [planV p rs.length cap, .int .i64 turns, .int .i64 dx, .int .i64 dy, str s]) Tryz.func11 rfl rfl rfl ?_
  refine zA ?_
  refine zB ?_
  (refine wl_box rfl rfl rfl rfl ?_; intro)
  refine wl_pure Tryz.hT rfl rfl rfl ?_
  refine wl_nil ?_
  rename_i b5
  refine ne_then ?_
  refine wc_seq ?_
  refine wc_cut (X := Bool) (fun b => [(1, .int .i64 turns), (2, .int .i64 dx), (3, .int .i64 dy), (4, str s), (5, .pointer (some ⟨b5, 0, none⟩)), (49, .bool b)]) (fun _ => [⟨b5, 24, [slv p rs.length cap], true, none⟩]) (fun b => b = false → grt rs 12 = false ∧ s.length ≤ 65538) ?_ ?_
  · refine zB ?_
    refine wl_loadBx 0 Tryz.hT rfl rfl rfl rfl rfl rfl rfl rfl ?_
    refine wl_call1 rfl rfl rfl rfl rfl rfl (by kernel_rfl) (fun W hp => great_gives W p cap rs 12 (by omega) (by omega) (hR.hp hp)) ?_
    refine wl_pure Tryz.hT rfl rfl rfl ?_
    refine wl_part 35 rfl (fun h35 => ?_) (fun h35 => ?_)
    · refine wl_skip rfl rfl ?_
      iterate 7 refine wl_skip rfl rfl ?_
      iterate 2 refine wl_pure Tryz.hT rfl rfl rfl ?_
      iterate 3 refine wl_skip rfl rfl ?_
      refine wl_pure Tryz.hT rfl rfl rfl ?_
      refine wl_nil ?_
      exact ne_cutP true (fun h => by cases h) ⟨rfl, rfl, rfl, rfl, rfl, rfl, trivial⟩ [0] (by decide) rfl
    · refine wl_pure Tryz.hT rfl rfl rfl ?_
      iterate 3 refine wl_pure Tryz.hT rfl rfl rfl ?_
      refine wl_part 39 rfl (fun h39 => ?_) (fun h39 => ?_)
      · refine wl_pure Tryz.hT rfl rfl rfl ?_
        iterate 5 refine wl_pure Tryz.hT rfl rfl rfl ?_
        refine wl_part 45 rfl (fun h45 => ?_) (fun h45 => ?_)
        · refine wl_skip rfl rfl ?_
          iterate 2 refine wl_skip rfl rfl ?_
          refine wl_pure Tryz.hT rfl rfl rfl ?_
          refine wl_nil ?_
          exact ne_cutP true (fun h => by cases h) ⟨rfl, rfl, rfl, rfl, rfl, rfl, trivial⟩ [0] (by decide) rfl
        · refine wl_pure Tryz.hT rfl rfl rfl ?_
          iterate 3 refine wl_pure Tryz.hT rfl rfl rfl ?_
          refine wl_nil ?_
          refine ne_cutP _ (fun h => ⟨h35, ?_⟩) ⟨rfl, rfl, rfl, rfl, rfl, rfl, trivial⟩ [0] (by decide) rfl
          have h' : decide (((⟨s.toArray⟩ : ByteArray).size : Int) > 65538) = false := h
          rw [hsz, decide_eq_false_iff_not] at h'
          omega
      · refine wl_skip rfl rfl ?_
        iterate 2 refine wl_skip rfl rfl ?_
        iterate 7 refine wl_pure Tryz.hT rfl rfl rfl ?_
        refine wl_nil ?_
        refine ne_cutP _ (fun h => ⟨h35, ?_⟩) ⟨rfl, rfl, rfl, rfl, rfl, rfl, trivial⟩ [0] (by decide) rfl
        have h' : decide (((⟨s.toArray⟩ : ByteArray).size : Int) > 65538) = false := h
        rw [hsz, decide_eq_false_iff_not] at h'
        omega
  intro bb hbb
  refine wc_cond rfl (fun hx => ?_) (fun hx => ?_)
  · refine zA ?_
    refine zB ?_
    refine wl_call1 rfl rfl rfl rfl rfl rfl (by kernel_rfl) (fun W hp => awake_gives W (ht.hp hp)) ?_
    refine wl_pure Tryz.hT rfl rfl rfl ?_
    refine wl_nil ?_
    refine zE ?_
    refine zO ?_
    refine zP ?_
    exact ne_ret1 Tryz.hT rfl (.tmp rfl) () rfl trivial fun W _ => NewBx.nil _ _
  obtain ⟨hgr, hs8⟩ := hbb hx
  obtain ⟨hs1, hs2⟩ := grt_small hgr
  have h12 : chk rs = 0 → tot rs ≤ 12 := fun hc => by
    have h24 := (chk_ne hc).2.1
    unfold grt at hgr
    simp only [Bool.or_eq_false_iff, Bool.and_eq_false_iff, decide_eq_false_iff_not] at hgr
    omega
  have sm1 := smo_rot rs turns hs2 hs1
  have sm2 := smo_sh rs dx dy hs2 hs1
  obtain ⟨sm3, sm4⟩ := smo_can rs h12
  have sm5 := smo_txt s
  generalize hoR : rotO rs turns = oR at sm1
  generalize hoS : shO rs dx dy = oS at sm2
  generalize hoC : canO rs = oC at sm3 sm4
  generalize hoT : outT s = oT at sm5
  refine zI ?_
  refine zE ?_
  refine zA ?_
  refine zB ?_
  refine wl_loadBx 0 Tryz.hT rfl rfl rfl rfl rfl rfl rfl rfl ?_
  refine wl_pure Tryz.hT rfl rfl rfl ?_
  refine wl_call (X := Vec × Made) rfl rfl rfl rfl rfl rfl (by kernel_rfl) (fun W hp => hoR ▸ rotateP_gives W p cap rs turns hn hT (hR.hp hp)) ?_
  rintro ⟨V1, mk1⟩ ⟨hm1, hV1⟩
  obtain ⟨q1, c1, e1, f1⟩ := made_rings hm1 hV1
  refine wl_upd 54 (.tuple #[planV q1 oR.1.length c1, .int .i64 oR.2]) rfl (congrArg (fun v => Value.tuple #[.agg #[v], .int .i64 oR.2]) e1) ?_
  iterate 3 refine wl_pure Tryz.hT rfl rfl rfl ?_
  (refine wl_allocZ Tryz.hZ rfl rfl rfl rfl ?_; intro)
  refine wl_storeBx 3 Tryz.hT rfl rfl rfl rfl rfl rfl rfl rfl rfl rfl rfl ?_
  refine wl_pure Tryz.hT rfl rfl rfl ?_
  refine wl_nil ?_
  refine ne_pick [0, 1, 2, 3] (by decide) rfl ?_
  refine zE ?_
  refine zA ?_
  refine zB ?_
  refine wl_loadBx 0 Tryz.hT rfl rfl rfl rfl rfl rfl rfl rfl ?_
  refine wl_pure Tryz.hT rfl rfl rfl ?_
  refine wl_call (X := Vec × Made) rfl rfl rfl rfl rfl rfl (by kernel_rfl) (fun W hp => hoR ▸ rotateR_gives W p cap rs turns hn hT (hR.hp hp)) ?_
  rintro ⟨V2, mk2⟩ ⟨hm2, hV2⟩
  obtain ⟨q2, c2, e2, f2⟩ := made_rings hm2 hV2
  refine wl_upd 60 (.tuple #[planV q2 oR.1.length c2, .int .i64 oR.2]) rfl (congrArg (fun v => Value.tuple #[.agg #[v], .int .i64 oR.2]) e2) ?_
  iterate 3 refine wl_pure Tryz.hT rfl rfl rfl ?_
  (refine wl_allocZ Tryz.hZ rfl rfl rfl rfl ?_; intro)
  refine wl_storeBx 6 Tryz.hT rfl rfl rfl rfl rfl rfl rfl rfl rfl rfl rfl ?_
  refine wl_pure Tryz.hT rfl rfl rfl ?_
  refine wl_nil ?_
  refine ne_pick [0, 1, 2, 3, 4, 5, 6] (by decide) rfl ?_
  refine zE ?_
  refine zA ?_
  refine zB ?_
  refine wl_loadBx 0 Tryz.hT rfl rfl rfl rfl rfl rfl rfl rfl ?_
  iterate 2 refine wl_pure Tryz.hT rfl rfl rfl ?_
  refine wl_call (X := Vec × Made) rfl rfl rfl rfl rfl rfl (by kernel_rfl) (fun W hp => hoS ▸ shiftP_gives W p cap rs dx dy hn hT (hR.hp hp)) ?_
  rintro ⟨V3, mk3⟩ ⟨hm3, hV3⟩
  obtain ⟨q3, c3, e3, f3⟩ := made_rings hm3 hV3
  refine wl_upd 67 (.tuple #[planV q3 oS.1.length c3, .int .i64 oS.2]) rfl (congrArg (fun v => Value.tuple #[.agg #[v], .int .i64 oS.2]) e3) ?_
  iterate 3 refine wl_pure Tryz.hT rfl rfl rfl ?_
  (refine wl_allocZ Tryz.hZ rfl rfl rfl rfl ?_; intro)
  refine wl_storeBx 9 Tryz.hT rfl rfl rfl rfl rfl rfl rfl rfl rfl rfl rfl ?_
  refine wl_pure Tryz.hT rfl rfl rfl ?_
  refine wl_nil ?_
  refine ne_pick [0, 1, 2, 3, 4, 5, 6, 7, 8, 9] (by decide) rfl ?_
  refine zE ?_
  refine zA ?_
  refine zB ?_
  refine wl_loadBx 0 Tryz.hT rfl rfl rfl rfl rfl rfl rfl rfl ?_
  iterate 2 refine wl_pure Tryz.hT rfl rfl rfl ?_
  refine wl_call (X := Vec × Made) rfl rfl rfl rfl rfl rfl (by kernel_rfl) (fun W hp => hoS ▸ shiftR_gives W p cap rs dx dy hn hT (hR.hp hp)) ?_
  rintro ⟨V4, mk4⟩ ⟨hm4, hV4⟩
  obtain ⟨q4, c4, e4, f4⟩ := made_rings hm4 hV4
  refine wl_upd 74 (.tuple #[planV q4 oS.1.length c4, .int .i64 oS.2]) rfl (congrArg (fun v => Value.tuple #[.agg #[v], .int .i64 oS.2]) e4) ?_
  iterate 3 refine wl_pure Tryz.hT rfl rfl rfl ?_
  (refine wl_allocZ Tryz.hZ rfl rfl rfl rfl ?_; intro)
  refine wl_storeBx 12 Tryz.hT rfl rfl rfl rfl rfl rfl rfl rfl rfl rfl rfl ?_
  refine wl_pure Tryz.hT rfl rfl rfl ?_
  refine wl_nil ?_
  refine ne_pick [0, 1, 2, 3, 4, 5, 6, 7, 8, 9, 10, 11, 12] (by decide) rfl ?_
  refine zE ?_
  refine zA ?_
  refine zB ?_
  refine wl_loadBx 0 Tryz.hT rfl rfl rfl rfl rfl rfl rfl rfl ?_
  refine wl_call (X := Vec × Made × Vec) rfl rfl rfl rfl rfl rfl (by kernel_rfl) (fun W hp => hoC ▸ canonP_gives W p cap rs hn hT (hR.hp hp) h12) ?_
  rintro ⟨V5, mk5, U5⟩ ⟨⟨hm5, hV5⟩, hU5⟩
  obtain ⟨q5, c5, e5, f5⟩ := made_rings hm5 hV5
  obtain ⟨u5, d5, i5, g5⟩ := vec_nums hU5
  refine wl_upd 79 (.tuple #[planV q5 oC.1.length c5, slv u5 oC.2.1.length d5, .int .i64 oC.2.2]) rfl (by show Value.tuple #[.agg #[V5.val oC.1.length], U5.val oC.2.1.length, _] = _; rw [e5, i5]) ?_
  iterate 4 refine wl_pure Tryz.hT rfl rfl rfl ?_
  (refine wl_allocZ Tryz.hZ rfl rfl rfl rfl ?_; intro)
  refine wl_storeBx 16 Tryz.hT rfl rfl rfl rfl rfl rfl rfl rfl rfl rfl rfl ?_
  iterate 2 refine wl_pure Tryz.hT rfl rfl rfl ?_
  refine wl_nil ?_
  refine ne_pick [0, 1, 2, 3, 4, 5, 6, 7, 8, 9, 10, 11, 12, 13, 14, 15, 16] (by decide) rfl ?_
  refine zE ?_
  refine zA ?_
  refine zB ?_
  refine wl_loadBx 0 Tryz.hT rfl rfl rfl rfl rfl rfl rfl rfl ?_
  refine wl_call (X := Vec × Made × Vec) rfl rfl rfl rfl rfl rfl (by kernel_rfl) (fun W hp => hoC ▸ canonR_gives W p cap rs hn hT (hR.hp hp) (room_hp hroom hp hR) h12) ?_
  rintro ⟨V6, mk6, U6⟩ ⟨⟨hm6, hV6⟩, hU6⟩
  obtain ⟨q6, c6, e6, f6⟩ := made_rings hm6 hV6
  obtain ⟨u6, d6, i6, g6⟩ := vec_nums hU6
  refine wl_upd 85 (.tuple #[planV q6 oC.1.length c6, slv u6 oC.2.1.length d6, .int .i64 oC.2.2]) rfl (by show Value.tuple #[.agg #[V6.val oC.1.length], U6.val oC.2.1.length, _] = _; rw [e6, i6]) ?_
  iterate 4 refine wl_pure Tryz.hT rfl rfl rfl ?_
  (refine wl_allocZ Tryz.hZ rfl rfl rfl rfl ?_; intro)
  refine wl_storeBx 20 Tryz.hT rfl rfl rfl rfl rfl rfl rfl rfl rfl rfl rfl ?_
  iterate 2 refine wl_pure Tryz.hT rfl rfl rfl ?_
  refine wl_nil ?_
  refine ne_pick [0, 1, 2, 3, 4, 5, 6, 7, 8, 9, 10, 11, 12, 13, 14, 15, 16, 17, 18, 19, 20] (by decide) rfl ?_
  refine zE ?_
  refine zA ?_
  refine zB ?_
  refine wl_loadBx 0 Tryz.hT rfl rfl rfl rfl rfl rfl rfl rfl ?_
  refine wl_call1 rfl rfl rfl rfl rfl rfl (by kernel_rfl) (fun W hp => print_gives W p cap rs (by omega) hT (hR.hp hp) (ht.hp hp)) ?_
  iterate 5 refine wl_pure Tryz.hT rfl rfl rfl ?_
  refine wl_nil ?_
  refine zE ?_
  refine zA ?_
  refine zB ?_
  refine wl_loadBx 0 Tryz.hT rfl rfl rfl rfl rfl rfl rfl rfl ?_
  refine wl_call1 rfl rfl rfl rfl rfl rfl (by kernel_rfl) (fun W hp => printR_gives W p cap rs (by omega) hT (hR.hp hp) (ht.hp hp)) ?_
  iterate 5 refine wl_pure Tryz.hT rfl rfl rfl ?_
  refine wl_nil ?_
  refine zE ?_
  refine zA ?_
  refine zB ?_
  refine wl_pure Tryz.hT rfl rfl rfl ?_
  refine wl_call (X := Vec × Made) rfl rfl rfl rfl rfl rfl (by kernel_rfl) (fun W hp => hoT ▸ parseP_gives W s (hv.hp hp) (ht.hp hp)) ?_
  rintro ⟨V7, mk7⟩ ⟨hm7, hV7⟩
  obtain ⟨q7, c7, e7, f7⟩ := made_rings hm7 hV7
  refine wl_upd 101 (.tuple #[planV q7 oT.1.length c7, .int .i64 oT.2]) rfl (congrArg (fun v => Value.tuple #[.agg #[v], .int .i64 oT.2]) e7) ?_
  iterate 3 refine wl_pure Tryz.hT rfl rfl rfl ?_
  (refine wl_allocZ Tryz.hZ rfl rfl rfl rfl ?_; intro)
  refine wl_storeBx 23 Tryz.hT rfl rfl rfl rfl rfl rfl rfl rfl rfl rfl rfl ?_
  refine wl_pure Tryz.hT rfl rfl rfl ?_
  refine wl_nil ?_
  refine ne_pick [0, 1, 2, 3, 4, 5, 6, 7, 8, 9, 10, 11, 12, 13, 14, 15, 16, 17, 18, 19, 20, 21, 22, 23] (by decide) rfl ?_
  refine zE ?_
  refine zA ?_
  refine zB ?_
  refine wl_pure Tryz.hT rfl rfl rfl ?_
  refine wl_call (X := Vec × Made) rfl rfl rfl rfl rfl rfl (by kernel_rfl) (fun W hp => hoT ▸ parseR_gives W s (by omega) (hv.hp hp) (ht.hp hp)) ?_
  rintro ⟨V8, mk8⟩ ⟨hm8, hV8⟩
  obtain ⟨q8, c8, e8, f8⟩ := made_rings hm8 hV8
  refine wl_upd 106 (.tuple #[planV q8 oT.1.length c8, .int .i64 oT.2]) rfl (congrArg (fun v => Value.tuple #[.agg #[v], .int .i64 oT.2]) e8) ?_
  iterate 3 refine wl_pure Tryz.hT rfl rfl rfl ?_
  (refine wl_allocZ Tryz.hZ rfl rfl rfl rfl ?_; intro)
  refine wl_storeBx 26 Tryz.hT rfl rfl rfl rfl rfl rfl rfl rfl rfl rfl rfl ?_
  refine wl_pure Tryz.hT rfl rfl rfl ?_
  refine wl_nil ?_
  refine ne_pick [0, 1, 2, 3, 4, 5, 6, 7, 8, 9, 10, 11, 12, 13, 14, 15, 16, 17, 18, 19, 20, 21, 22, 23, 24, 25, 26] (by decide) rfl ?_
  refine zE ?_
  refine zA ?_
  refine zB ?_
  refine wl_loadBx 3 Tryz.hT rfl rfl rfl rfl rfl rfl rfl rfl ?_
  refine wl_loadBx 6 Tryz.hT rfl rfl rfl rfl rfl rfl rfl rfl ?_
  refine wl_call1 rfl rfl rfl rfl rfl rfl (by kernel_rfl) (fun W hp => same_gives W q1 q2 c1 c2 oR.1 oR.1 (by have := sm1.1; omega) sm1.2 (f1 hp 1 2 rfl rfl) (f2 hp 4 5 rfl rfl)) ?_
  refine wl_upd 111 (.bool true) rfl (congrArg Value.bool (decide_eq_true rfl)) ?_
  iterate 4 refine wl_pure Tryz.hT rfl rfl rfl ?_
  refine wl_upd 115 (.bool true) rfl (congrArg Value.bool (show (oR.2 == oR.2) = true by simp)) ?_
  iterate 2 refine wl_pure Tryz.hT rfl rfl rfl ?_
  refine wl_loadBx 9 Tryz.hT rfl rfl rfl rfl rfl rfl rfl rfl ?_
  refine wl_loadBx 12 Tryz.hT rfl rfl rfl rfl rfl rfl rfl rfl ?_
  refine wl_call1 rfl rfl rfl rfl rfl rfl (by kernel_rfl) (fun W hp => same_gives W q3 q4 c3 c4 oS.1 oS.1 (by have := sm2.1; omega) sm2.2 (f3 hp 7 8 rfl rfl) (f4 hp 10 11 rfl rfl)) ?_
  refine wl_upd 120 (.bool true) rfl (congrArg Value.bool (decide_eq_true rfl)) ?_
  iterate 5 refine wl_pure Tryz.hT rfl rfl rfl ?_
  refine wl_upd 125 (.bool true) rfl (congrArg Value.bool (show (oS.2 == oS.2) = true by simp)) ?_
  iterate 2 refine wl_pure Tryz.hT rfl rfl rfl ?_
  refine wl_loadBx 16 Tryz.hT rfl rfl rfl rfl rfl rfl rfl rfl ?_
  refine wl_loadBx 20 Tryz.hT rfl rfl rfl rfl rfl rfl rfl rfl ?_
  refine wl_call1 rfl rfl rfl rfl rfl rfl (by kernel_rfl) (fun W hp => same_gives W q5 q6 c5 c6 oC.1 oC.1 (by have := sm3.1; omega) sm3.2 (f5 hp 13 14 rfl rfl) (f6 hp 17 18 rfl rfl)) ?_
  refine wl_upd 130 (.bool true) rfl (congrArg Value.bool (decide_eq_true rfl)) ?_
  iterate 4 refine wl_pure Tryz.hT rfl rfl rfl ?_
  refine wl_call1 rfl rfl rfl rfl rfl rfl (by kernel_rfl) (fun W hp => equalI_gives W u5 u6 d5 d6 oC.2.1 (by omega) (g5 hp 15 rfl) (g6 hp 19 rfl)) ?_
  iterate 5 refine wl_pure Tryz.hT rfl rfl rfl ?_
  refine wl_upd 140 (.bool true) rfl (congrArg Value.bool (show (oC.2.2 == oC.2.2) = true by simp)) ?_
  iterate 5 refine wl_pure Tryz.hT rfl rfl rfl ?_
  refine wl_upd 145 (.bool true) rfl (congrArg Value.bool (show ((⟨(prT rs).toArray⟩ : ByteArray).toList == (⟨(prT rs).toArray⟩ : ByteArray).toList) = true by simp)) ?_
  iterate 5 refine wl_pure Tryz.hT rfl rfl rfl ?_
  refine wl_upd 150 (.bool true) rfl (congrArg Value.bool (show (prE rs == prE rs) = true by simp)) ?_
  iterate 2 refine wl_pure Tryz.hT rfl rfl rfl ?_
  refine wl_loadBx 23 Tryz.hT rfl rfl rfl rfl rfl rfl rfl rfl ?_
  refine wl_loadBx 26 Tryz.hT rfl rfl rfl rfl rfl rfl rfl rfl ?_
  refine wl_call1 rfl rfl rfl rfl rfl rfl (by kernel_rfl) (fun W hp => same_gives W q7 q8 c7 c8 oT.1 oT.1 (by have := sm5.1; omega) sm5.2 (f7 hp 21 22 rfl rfl) (f8 hp 24 25 rfl rfl)) ?_
  refine wl_upd 155 (.bool true) rfl (congrArg Value.bool (decide_eq_true rfl)) ?_
  iterate 5 refine wl_pure Tryz.hT rfl rfl rfl ?_
  refine wl_upd 160 (.bool true) rfl (congrArg Value.bool (show (oT.2 == oT.2) = true by simp)) ?_
  iterate 2 refine wl_pure Tryz.hT rfl rfl rfl ?_
  refine wl_call1 rfl rfl rfl rfl rfl rfl (by kernel_rfl) (fun W hp => awake_gives W (ht.hp hp)) ?_
  iterate 2 refine wl_pure Tryz.hT rfl rfl rfl ?_
  refine wl_nil ?_
  refine zE ?_
  refine zO ?_
  exact ne_ret1 Tryz.hT rfl (.tmp rfl) () rfl trivial fun W _ => NewBx.nil _ _
end Go.Proofs.YtnpfkmbcejgnjaaGreatDoor
namespace Go.Proofs.YtnpfkmbcejgnjaaGreatDoor
open Go Go.RowKit Go.Am Go.ChangeShapes Go.WideShapes Go.ChangeAt
set_option maxRecDepth 100000
theorem own : ownKnob Tryz.prog.godebug = none := by kernel_rfl
theorem laidOut : laidOutB Tryz.prog = true := by kernel_rfl
/-- The list of the package variables, the same for every law over plans. -/
noncomputable abbrev laidL : List (String × DataW Unit) := Rows.planShiftsRow.laid
theorem laid_plain : (laidL.all fun x => x.2.handleName?.isNone) = true := by kernel_rfl
theorem tab_of_laid {W : World} (h : laidMetH Tryz.prog laidL W) : TabP W := by
  rw [MakeChecks.laidMetH_plain _ _ _ laid_plain] at h
  exact Lib.tabIs_of_head (g := 1) (t := 250) (e := 167) (n := 20) (by kernel_rfl) (by kernel_rfl) (by kernel_rfl) (by kernel_rfl) (by kernel_rfl) (by kernel_rfl) h.tail.tail
noncomputable def witW (os : Os) : World := World.laidAll Tryz.prog os laidL
theorem wit_laid (os : Os) (args : Array Value) : laidMetH Tryz.prog laidL ((witW os).forCall (fun _ _ => 0) ⟨#[], args, []⟩).memory := by
  rw [MakeChecks.laidMetH_plain _ _ _ laid_plain]
  exact laidMet_laidAll _ (by kernel_rfl) (by kernel_rfl)
theorem wit_shaped (os : Os) (args : Array Value) : ((witW os).forCall (fun _ _ => 0) ⟨#[], args, []⟩).Shaped Tryz.prog :=
  World.shaped_of_ZipB (by kernel_rfl) (by kernel_rfl)
/-- The witness of a row: its arguments have their types' forms, and the row's side holds. -/
theorem wit_row {H : Type} {enc : TypeId × Value → H} (os : Os) {f : FuncId} {fn : Func} {s : OpenSpec} {conds : List PathCond} (args : Array Value)
    (hok : Input.okWideB Tryz.prog ((witW os).forCall (fun _ _ => 0) ⟨#[], args, []⟩) f ⟨#[], args, []⟩ = true)
    (hrow : s.preRow enc Tryz.prog fn conds false laidL ((witW os).forCall (fun _ _ => 0) ⟨#[], args, []⟩).memory args) :
    ∃ (w : World) (tape : Tape) (i : Input), w.os = os ∧ (w.forCall tape i).Shaped Tryz.prog ∧ i.vars = [] ∧ Input.okWide Tryz.prog (w.forCall tape i) .any w.heap.size f i ∧
      s.preRow enc Tryz.prog fn conds false laidL (w.forCall tape i).memory i.args ∧ ({} : Assume).holds Tryz.prog (lone (Frame.enter Tryz.prog f i.args .normal) [] (w.forCall tape i)) :=
  ⟨witW os, fun _ _ => 0, ⟨#[], args, []⟩, World.laidAll_os _ _ _, wit_shaped os args, (Input.okWide_of_okWideB (base := 0) hok).1, (Input.okWide_of_okWideB hok).2, hrow, by
    simp only [Assume.holds]
    exact ⟨by simp, by simp, by simp, by simp, by simp, by simp⟩⟩
end Go.Proofs.YtnpfkmbcejgnjaaGreatDoor
namespace Go.Proofs.YtnpfkmbcejgnjaaGreatDoor
open Go Go.RowKit Go.Am
set_option maxRecDepth 100000
theorem star_err : "*" ++ "errors.errorString" = "*errors.errorString" := by decide
theorem row265 (u : TypeId) (h : Tryz.prog.typeName? 3 u = some "*errors.errorString") : u = 265 :=
  typeName_ptr_named (nm := "errors.errorString") (by rw [star_err]; kernel_rfl) (by kernel_rfl) (by decide) u (by rw [star_err]; exact h)
theorem vars_of {W : World} (hL : laidMetH Tryz.prog laidL W) (hS : W.ShapedOpen Tryz.prog) : VarsP W := by
  rw [MakeChecks.laidMetH_plain _ _ _ laid_plain] at hL
  refine ⟨cell_of_shapedOpen_int (g := 0) (t := 3) (zero := #[.int .i64 0]) hS (of_decide_eq_true (by kernel_rfl)) (by kernel_rfl) rfl (by kernel_rfl) (by kernel_rfl) Tryz.underlying3, ?_, ?_⟩
  · have g2 : Tryz.prog.globalNamed "strconv.ErrSyntax" = some 2 := by kernel_rfl
    obtain ⟨a, s, hv, _⟩ := laid_sentinel hL.tail.tail.tail.tail.tail g2 (show (Tryz.prog.globals[2]?).map (·.type) = some 96 by kernel_rfl) Tryz.underlying96 row265 Tryz.underlying265 Tryz.underlying267 rfl rfl Tryz.underlying9 (by kernel_rfl) (by kernel_rfl)
    exact ⟨_, by simpa using World.var?_cell g2 hv 0, .inr ⟨_, _, rfl⟩⟩
  · have g3 : Tryz.prog.globalNamed "strconv.ErrRange" = some 3 := by kernel_rfl
    obtain ⟨a, s, hv, _⟩ := laid_sentinel hL.tail.tail.tail.tail g3 (show (Tryz.prog.globals[3]?).map (·.type) = some 96 by kernel_rfl) Tryz.underlying96 row265 Tryz.underlying265 Tryz.underlying267 rfl rfl Tryz.underlying9 (by kernel_rfl) (by kernel_rfl)
    exact ⟨_, by simpa using World.var?_cell g3 hv 0, .inr ⟨_, _, rfl⟩⟩
end Go.Proofs.YtnpfkmbcejgnjaaGreatDoor
