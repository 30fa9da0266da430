/-
  side: the side of a line, if there is one.
-/
import Derived.Test.YtnpfkmbcejgnjaaGreatDoorPieces
import Derived.Test.YtnpfkmbcejgnjaaGreatDoorAreaF
namespace Go.Proofs.YtnpfkmbcejgnjaaGreatDoor
open Go Go.RowKit Go.Am Go.Lib
set_option maxRecDepth 10000
-- BOXES 3
abbrev ptrs (b : Nat) (l : List Nat) : List Value := l.map fun j => .pointer (some ⟨b, j, none⟩)
theorem setF_cells (s : Sd) {j : Nat} (hj : j = 0 ∨ j = 1 ∨ j = 2 ∨ j = 3 ∨ j = 5 ∨ j = 6) (v : Int) : splice s.cells j [.int .i64 v] = (setF s j v).cells := by
  rcases hj with rfl | rfl | rfl | rfl | rfl | rfl <;> rfl
theorem ptrs_at {l : List Nat} {b g : Nat} {e : TypeId} {W0 W : World} {bxs : List Bx} (hp : Hp W0 bxs W) (k : Nat) (hk : nth bxs k = some ⟨g, e, ptrs b l, true, none⟩) {i : Nat} (hi : i < l.length) : RowAt W g (0 + i * 1) [.pointer (some ⟨b, l.getD i 0, none⟩)] := by
  have h := RowAt.of_bx hp k hk rfl
  refine ⟨h.lt, fun j u hu => ?_⟩
  have hj : j = 0 := by have := (List.getElem?_eq_some_iff.1 hu).1; simp at this; omega
  subst hj
  have := h.get (i * 1 + 0) u (by
    show (ptrs b l)[i * 1 + 0]? = some u
    rw [show i * 1 + 0 = i by omega, List.getElem?_map, List.getElem?_eq_getElem hi, ← hu, List.getD_eq_getElem?_getD, List.getElem?_eq_getElem hi]; rfl)
  rw [Nat.zero_add] at this ⊢
  exact this
theorem str_eq (a b : List UInt8) : ((⟨a.toArray⟩ : ByteArray).toList == (⟨b.toArray⟩ : ByteArray).toList) = decide (a = b) := by
  rw [bytes_list, bytes_list]
  by_cases h : a = b
  · rw [decide_eq_true h, beq_iff_eq]; exact h
  · rw [decide_eq_false h, beq_eq_false_iff_ne]; exact h
section
variable {r : Option Nat} {n : Nat} {P : Program} {N : Nat} {D : List Deferred} {ops : List Oper} {Q : Exit → Act → World → Prop} {o : Oper} {rest : List Oper} {env : Env} {A : World → Prop}
theorem wl_nilChk {d : Nat} {x : Operand} {a : Addr} (hg : guardE ops N env o = some true) (hd : o.dst = some d) (ho : o.op = .nilCheck x) (hx : evO N env x = some (.pointer (some a)))
    (h : WL r n P N D ops Q rest ((d, .pointer (some a)) :: env) A) : WL r n P N D ops Q (o :: rest) env A :=
  wl_val hg hd (fun c e => by rw [ho] at e; cases e) (fun ρ W hρ _ => by simp [execOp, ho, hρ _ _ hx]) h
end
/-- What side tells. -/
def SideOK (l : List UInt8) (x : Sd × Bool) : Prop := (∃ s, sideP l = some s ∧ x = (s, true)) ∨ (sideP l = none ∧ x.2 = false)
set_option maxHeartbeats 16000000 in
theorem side_gives (W : World) (l : List UInt8) (hl : l.length ≤ 100000) (hv : VarsP W) (ht : TabP W) :
    CallsR Tryz.prog 83 #[str l] W (fun x : Sd × Bool => .tuple #[x.1.val, .bool x.2]) (SideOK l) (fun _ => []) := by
  refine calls_enter (args := [str l]) Tryz.func83 rfl rfl rfl ?_
  refine zA ?_
  refine zB ?_
  (refine wl_allocZ Tryz.hZ rfl rfl rfl rfl ?_; intro)
  refine wl_pure Tryz.hT rfl rfl rfl ?_
  refine wl_nil ?_
  rename_i b2
  refine zE ?_
  refine zA ?_
  refine zB ?_
  (refine wl_allocZ Tryz.hZ rfl rfl rfl rfl ?_; intro)
  refine wl_nil ?_
  rename_i b4
  refine zE ?_
  refine zA ?_
  refine zB ?_
  refine wl_pure Tryz.hT rfl rfl rfl ?_
  refine wl_call (X := Nat) rfl rfl rfl rfl rfl rfl (by kernel_rfl) (fun W hp => split_gives W l (by omega) (hv.hp hp)) ?_
  intro g _
  have hjs := join_splt 32 l
  have hws : ∀ w ∈ splt 32 l, w.length ≤ 100000 := fun w hw => by
    have h1 : w.length ≤ (join (splt 32 l) [32]).length := by
      generalize splt 32 l = ws at hw ⊢
      induction ws with
      | nil => cases hw
      | cons a r ih =>
        rcases List.mem_cons.1 hw with rfl | hw
        · rw [join_cons, List.length_append]; omega
        · cases r with
          | nil => cases hw
          | cons c r =>
            have := ih hw
            rw [join_more, List.length_append, List.length_cons]; omega
    rw [hjs] at h1
    omega
  obtain ⟨ws, hwsd⟩ : ∃ ws, ws = splt 32 l := ⟨_, rfl⟩
  rw [← hwsd] at hws ⊢
  refine wl_pure Tryz.hT rfl rfl rfl ?_
  refine wl_nil ?_
  refine zE ?_
  refine zA ?_
  refine zB ?_
  refine wl_pure Tryz.hT rfl rfl rfl ?_
  refine wl_pure Tryz.hT rfl rfl rfl ?_
  refine wl_pure Tryz.hT rfl rfl rfl ?_
  refine wl_pure Tryz.hT rfl rfl rfl ?_
  refine wl_pure Tryz.hT rfl rfl rfl ?_
  refine wl_pure Tryz.hT rfl rfl rfl ?_
  (refine wl_buildRowZ Tryz.hZ Tryz.hT rfl rfl rfl rfl rfl rfl rfl rfl rfl rfl rfl ?_; intro)
  refine wl_pure Tryz.hT rfl rfl rfl ?_
  refine wl_nil ?_
  rename_i b19
  have hG0 : ∀ b : Bool, (ws.length = 5 ∧ ws[2]? = some gableW ↔ b = true) → b = gabL l := fun b h => by
    unfold gabL
    rw [← hwsd]
    cases b with
    | true => exact (decide_eq_true (h.2 rfl)).symm
    | false => exact (decide_eq_false (fun e => by have := h.1 e; cases this)).symm
  refine ne_then ?_
  refine wc_cut (X := Bool × Nat × List Value) (fun x => [(2, .pointer (some ⟨b2, 0, none⟩)), (3, .bool false), (4, .pointer (some ⟨b4, 0, none⟩)), (5, .slice (some ⟨g, 0, none⟩) (wsG x.1 ws).length ws.length), (6, .slice (some ⟨x.2.1, 0, none⟩) (offsG x.1).length (offsG x.1).length)])
    (fun x => [⟨b2, 42, (sdTo false [] 0).cells, true, none⟩, ⟨b4, 42, (sdTo x.1 (wsG x.1 ws) 0).cells, true, none⟩, ⟨g, 9, ss (wsG x.1 ws) ++ x.2.2, true, none⟩, ⟨x.2.1, 152, ptrs b4 (offsG x.1), true, none⟩]) (fun x => x.1 = gabL l) ?_ ?_
  · refine zA ?_
    refine zB ?_
    refine wl_pure Tryz.hT rfl rfl rfl ?_
    refine wl_pure Tryz.hT rfl rfl rfl ?_
    refine wl_pure Tryz.hT rfl rfl rfl ?_
    refine wl_pure Tryz.hT rfl rfl rfl ?_
    refine wl_part 23 rfl (fun h23 => ?_) (fun h23 => ?_)
    · refine wl_pure Tryz.hT rfl rfl rfl ?_
      have h5 : ws.length = 5 := by { have h' : ((ws.length : Int) == 5) = true := h23; rw [beq_iff_eq] at h'; omega }
      refine wl_indexAddr Tryz.hT rfl rfl rfl rfl rfl rfl rfl (by omega) (by omega) ?_
      refine wl_load rfl rfl rfl rfl (fun W hp => RowAt.load 0 Tryz.hT rfl ((fun W hp => ss_at hp 2 rfl (show 2 < ws.length by omega)) W hp) rfl) ?_
      refine wl_pure Tryz.hT rfl rfl rfl ?_
      refine wl_pure Tryz.hT rfl rfl rfl ?_
      refine wl_nil ?_
      refine zE ?_
      have hget : ws[2]? = some (ws.getD 2 []) := by rw [List.getD_eq_getElem?_getD, List.getElem?_eq_getElem (show 2 < ws.length by omega)]; rfl
      refine wc_cond rfl (fun hx => ?_) (fun hx => ?_)
      · have hx' : ws.getD 2 [] = gableW := by
          have h' : ((⟨(ws.getD 2 []).toArray⟩ : ByteArray).toList == (⟨gableW.toArray⟩ : ByteArray).toList) = true := hx
          rw [str_eq, decide_eq_true_iff] at h'
          exact h'
        have hl4 : (wsG true ws).length = 4 := by show (ws.take 2 ++ ws.drop 3).length = 4; rw [List.length_append, List.length_take, List.length_drop]; omega
        refine zA ?_
        refine zB ?_
        refine wl_pure Tryz.hT rfl rfl rfl ?_
        refine wl_storeBx 1 Tryz.hT rfl rfl rfl rfl rfl rfl rfl rfl rfl rfl rfl ?_
        refine wl_nil ?_
        refine zE ?_
        refine zA ?_
        refine zB ?_
        refine wl_pure Tryz.hT rfl rfl rfl ?_
        refine wl_callN (X := Unit) (val := fun _ => .slice (some ⟨g, 0, none⟩) 4 5) (Φ := fun _ => True) (capt := []) (vs := [.slice (some ⟨g, 0, none⟩) 5 5, .int .i64 2, .int .i64 3]) 2 (B := ⟨g, 9, ss ws ++ [], true, none⟩) (L1 := []) (L2 := []) (b := g) (ob := .cells (ss ws ++ []).toArray 9 (0, 0))
          (fun _ => ⟨g, 9, ss (ws.take 2 ++ ws.drop 3) ++ [str []], true, none⟩) (g' := fun _ => g) (o' := fun _ => .cells (ss (ws.take 2 ++ ws.drop 3) ++ [str []]).toArray 9 (0, 0))
          rfl rfl rfl rfl rfl (by rw [← h5]; rfl) (by kernel_rfl) rfl rfl (fun _ _ => rfl) (fun W1 hp => delete_gives h5 (hp.own.cell 2 ⟨g, 9, ss ws ++ [], true, none⟩ rfl (g, .cells (ss ws ++ []).toArray 9 (0, 0)) (List.mem_cons_self ..)).1) ?_
        intro _ _
        refine wl_pure Tryz.hT rfl rfl rfl ?_
        refine wl_nil ?_
        refine zE ?_
        refine zB ?_
        refine wl_pure Tryz.hT rfl rfl rfl ?_
        refine wl_pure Tryz.hT rfl rfl rfl ?_
        refine wl_pure Tryz.hT rfl rfl rfl ?_
        refine wl_pure Tryz.hT rfl rfl rfl ?_
        (refine wl_buildRowZ Tryz.hZ Tryz.hT rfl rfl rfl rfl rfl rfl rfl rfl rfl rfl rfl ?_; intro)
        refine wl_pure Tryz.hT rfl rfl rfl ?_
        refine wl_nil ?_
        rename_i b36
        exact ne_cutP (true, b36, [str []]) (hG0 true ⟨fun _ => rfl, fun _ => ⟨h5, by rw [hget, hx']⟩⟩) ⟨rfl, rfl, rfl, (by show some (Value.slice (some ⟨g, 0, none⟩) 4 5) = some (.slice (some ⟨g, 0, none⟩) (wsG true ws).length ws.length); rw [hl4, h5]), rfl, trivial⟩ [0, 1, 2, 4] (by decide) rfl
      · have hx' : ws.getD 2 [] ≠ gableW := by
          have h' : ((⟨(ws.getD 2 []).toArray⟩ : ByteArray).toList == (⟨gableW.toArray⟩ : ByteArray).toList) = false := hx
          rw [str_eq, decide_eq_false_iff_not] at h'
          exact h'
        refine zI ?_
        exact ne_cutP (false, b19, []) (hG0 false ⟨fun h => absurd (Option.some.inj (hget.symm.trans h.2)) hx', fun h => by cases h⟩) ⟨rfl, rfl, rfl, rfl, rfl, trivial⟩ [0, 1, 2, 3] (by decide) rfl
    · refine wl_skip rfl rfl ?_
      refine wl_skip rfl rfl ?_
      refine wl_skip rfl rfl ?_
      refine wl_skip rfl rfl ?_
      refine wl_pure Tryz.hT rfl rfl rfl ?_
      refine wl_nil ?_
      refine zE ?_
      refine zS rfl ?_
      refine zI ?_
      refine ne_cutP (false, b19, []) (hG0 false ⟨fun h => ?_, fun h => by cases h⟩) ⟨rfl, rfl, rfl, rfl, rfl, trivial⟩ [0, 1, 2, 3] (by decide) rfl
      have h' : ((ws.length : Int) == 5) = false := h23
      rw [h.1] at h'; cases h'
  rintro ⟨G, bf, junk⟩ hG
  change G = gabL l at hG
  obtain ⟨wg, hwg⟩ : ∃ wg, wg = wsG G ws := ⟨_, rfl⟩
  have hwgl : ∀ w ∈ wg, w.length ≤ 100000 := fun w hw => by
    rw [hwg] at hw
    unfold wsG at hw
    split at hw
    · rcases List.mem_append.1 hw with hw | hw
      · exact hws w (List.mem_of_mem_take hw)
      · exact hws w (List.mem_of_mem_drop hw)
    · exact hws w hw
  have ewg : wsG (gabL l) (splt 32 l) = wg := by rw [hwg, ← hG, ← hwsd]
  rw [← hwg]
  refine zA ?_
  refine zA ?_
  refine zB ?_
  refine wl_pure Tryz.hT rfl rfl rfl ?_
  refine wl_pure Tryz.hT rfl rfl rfl ?_
  refine wl_pure Tryz.hT rfl rfl rfl ?_
  refine wl_pure Tryz.hT rfl rfl rfl ?_
  refine wl_pure Tryz.hT rfl rfl rfl ?_
  refine wl_nil ?_
  refine zE ?_
  refine wc_cond rfl (fun hx => ?_) (fun hx => ?_)
  · have hne : wg.length ≠ (offsG G).length := fun e => by
      have h' : ((wg.length : Int) != ((offsG G).length : Nat)) = true := hx
      rw [bne_iff_ne] at h'; omega
    refine zA ?_
    refine zB ?_
    refine wl_loadBx 1 Tryz.hT rfl rfl rfl rfl rfl rfl rfl rfl ?_
    refine wl_storeBx 0 Tryz.hT rfl rfl rfl rfl rfl rfl rfl rfl rfl rfl rfl ?_
    refine wl_pure Tryz.hT rfl rfl rfl ?_
    refine wl_nil ?_
    refine zE ?_
    refine zO ?_
    refine zP ?_
    refine ne_ret2 Tryz.hT rfl (.cell 0 rfl rfl rfl rfl rfl) (.tmp rfl) (sdTo G wg 0, false) rfl (.inr ⟨sideP_len ?_, rfl⟩) fun W _ => NewBx.nil _ _
    rw [ewg, ← hG]; exact hne
  have hlen : wg.length = (offsG G).length := by
    have h' : ((wg.length : Int) != ((offsG G).length : Nat)) = false := hx
    rw [bne_eq_false_iff_eq] at h'; omega
  clear hx
  refine zI ?_
  refine zE ?_
  refine zA ?_
  refine zA ?_
  refine zB ?_
  refine wl_pure Tryz.hT rfl rfl rfl ?_
  refine wl_pure Tryz.hT rfl rfl rfl ?_
  refine wl_pure Tryz.hT rfl rfl rfl ?_
  refine wl_nil ?_
  refine zE ?_
  refine zH ?_
  refine wc_loop (X := Nat) (fun k => [(2, .pointer (some ⟨b2, 0, none⟩)), (3, .bool false), (4, .pointer (some ⟨b4, 0, none⟩)), (5, .slice (some ⟨g, 0, none⟩) wg.length ws.length), (43, .slice (some ⟨bf, 0, none⟩) (offsG G).length (offsG G).length), (44, .int .i64 ((offsG G).length : Nat)), (45, .int .i64 (k : Nat))])
    (fun k => [⟨b2, 42, (sdTo false [] 0).cells, true, none⟩, ⟨b4, 42, (sdTo G wg k).cells, true, none⟩, ⟨g, 9, ss wg ++ junk, true, none⟩, ⟨bf, 152, ptrs b4 (offsG G), true, none⟩])
    (fun k => k ≤ (offsG G).length ∧ ∀ j, j < k → numW (wg.getD j []) ≠ none) (fun k => (offsG G).length - k) 0 ⟨Nat.zero_le _, fun j hj => absurd hj (Nat.not_lt_zero _)⟩ ⟨rfl, rfl, rfl, rfl, rfl, rfl, rfl, trivial⟩ [] rfl ?_
  rintro k ⟨hk, hall⟩
  have ho7 : (offsG G).length ≤ 6 := by cases G <;> decide
  refine zA ?_
  refine zB ?_
  refine wl_pure Tryz.hT rfl rfl rfl ?_
  refine wl_nil ?_
  refine zE ?_
  refine zA ?_
  refine wc_cond rfl (fun h => ?_) (fun h => ?_)
  rotate_left
  · have e : k = (offsG G).length := by have h' : decide ((k : Int) < ((offsG G).length : Nat)) = false := h; rw [decide_eq_false_iff_not] at h'; omega
    refine zJ ?_
    refine zK ?_
    refine zK ?_
    refine zL ?_
    refine zE ?_
    refine zA ?_
    refine zB ?_
    refine wl_loadBx 1 Tryz.hT rfl rfl rfl rfl rfl rfl rfl rfl ?_
    refine wl_storeBx 0 Tryz.hT rfl rfl rfl rfl rfl rfl rfl rfl rfl rfl rfl ?_
    refine wl_pure Tryz.hT rfl rfl rfl ?_
    refine wl_nil ?_
    refine zE ?_
    refine zO ?_
    refine ne_ret2 Tryz.hT rfl (.cell 0 rfl rfl rfl rfl rfl) (.tmp rfl) (sdTo G wg k, true) rfl (.inl ⟨_, ?_, rfl⟩) fun W _ => NewBx.nil _ _
    have := sideP_all (l := l) (by rw [ewg, ← hG]; exact hlen) (fun j hj => by rw [ewg]; rw [← hG] at hj; exact hall j (by omega))
    rw [this, ewg, ← hG, e]
  have hk : k < (offsG G).length := by have h' : decide ((k : Int) < ((offsG G).length : Nat)) = true := h; rw [decide_eq_true_iff] at h'; omega
  clear h
  have hkw : k < wg.length := by omega
  have hoff := offsG_mem G hk
  have hwk : (wg.getD k []).length ≤ 100000 := hwgl _ (by rw [List.getD_eq_getElem?_getD, List.getElem?_eq_getElem hkw]; exact List.getElem_mem hkw)
  have hbad0 : numW (wg.getD k []) = none → sideP l = none := fun h => sideP_bad (k := k) (by rw [ewg]; exact hkw) (by rw [ewg]; exact h)
  obtain ⟨w, hw⟩ : ∃ w, w = wg.getD k [] := ⟨_, rfl⟩
  have hat : ∀ {bxs : List Bx} {W1 : World}, Hp W bxs W1 → nth bxs 2 = some ⟨g, 9, ss wg ++ junk, true, none⟩ → RowAt W1 g (0 + k * 1) [str w] := fun hp h2 => by rw [hw]; exact ss_at hp 2 h2 hkw
  rw [← hw] at hwk hbad0
  have hstep : ∀ n, numW w = some n → (sdTo G wg (k + 1)) = setF (sdTo G wg k) ((offsG G).getD k 0) n := fun n h => by
    show setF (sdTo G wg k) ((offsG G).getD k 0) ((numW (wg.getD k [])).getD 0) = _
    rw [← hw, h]; rfl
  refine zI ?_
  refine zE ?_
  refine zA ?_
  refine zH ?_
  refine zA ?_
  refine zB ?_
  refine wl_pure Tryz.hT rfl rfl rfl ?_
  refine wl_indexAddr Tryz.hT rfl rfl rfl rfl rfl rfl rfl (by omega) (by omega) ?_
  refine wl_load rfl rfl rfl rfl (fun W hp => RowAt.load 0 Tryz.hT rfl ((fun W hp => ptrs_at hp 3 rfl hk) W hp) rfl) ?_
  refine wl_pure Tryz.hT rfl rfl rfl ?_
  refine wl_pure Tryz.hT rfl rfl rfl ?_
  refine wl_nil ?_
  refine zE ?_
  refine zA ?_
  refine zB ?_
  refine wl_pure Tryz.hT rfl rfl rfl ?_
  refine wl_pure Tryz.hT rfl rfl rfl ?_
  refine wl_indexAddr Tryz.hT rfl rfl rfl rfl rfl rfl rfl (by omega) (by omega) ?_
  refine wl_load rfl rfl rfl rfl (fun W hp => RowAt.load 0 Tryz.hT rfl ((fun W hp => hat hp rfl) W hp) rfl) ?_
  refine wl_call (X := Int × Value) rfl rfl rfl rfl rfl rfl (by kernel_rfl) (fun W hp => atoi_any W w (by omega) (hv.hp hp)) ?_
  rintro ⟨z, ev⟩ hz
  refine wl_pure Tryz.hT rfl rfl rfl ?_
  refine wl_pure Tryz.hT rfl rfl rfl ?_
  refine wl_pure Tryz.hT rfl rfl rfl ?_
  refine wl_pure Tryz.hT rfl rfl rfl ?_
  refine wl_pure Tryz.hT rfl rfl rfl ?_
  refine wl_nil ?_
  rcases hz with ⟨n, hn, e⟩ | ⟨hno, a, ha⟩
  rotate_left
  · have hbad : sideP l = none := hbad0 (numW_no hno)
    change ev = _ at ha
    subst ha
    refine zE ?_
    refine zA ?_
    refine zA ?_
    refine zT Tryz.mixed (by kernel_rfl) ?_
    refine wq_pure Tryz.hT rfl rfl rfl ?_
    refine wq_val (v := .bool true) rfl rfl (fun c e => by cases e) (fun ρ W hρ _ => neqNil_run Tryz.underlying96 rfl (hρ _ _ rfl) (hρ _ _ rfl) (.inr ⟨⟨_, _, rfl⟩, rfl⟩) W) ?_
    refine wq_pure Tryz.hT rfl rfl rfl ?_
    refine wq_skip rfl rfl ?_
    refine wq_skip rfl rfl ?_
    refine wq_pure Tryz.hT rfl rfl rfl ?_
    refine wq_pure Tryz.hT rfl rfl rfl ?_
    refine wq_skip rfl rfl ?_
    refine wq_skip rfl rfl ?_
    refine wq_skip rfl rfl ?_
    refine wq_skip rfl rfl ?_
    refine wq_skip rfl rfl ?_
    refine wq_skip rfl rfl ?_
    refine wq_pure Tryz.hT rfl rfl rfl ?_
    refine wq_pure Tryz.hT rfl rfl rfl ?_
    refine wq_skip rfl rfl ?_
    refine wq_skip rfl rfl ?_
    refine wq_skip rfl rfl ?_
    refine wq_skip rfl rfl ?_
    refine wq_skip rfl rfl ?_
    refine wq_skip rfl rfl ?_
    refine wq_skip rfl rfl ?_
    refine wq_pure Tryz.hT rfl rfl rfl ?_
    refine wq_nil ?_
    refine wl_nil ?_
    refine zE ?_
    refine zR rfl ?_
    refine zA ?_
    refine zB ?_
    refine wl_loadBx 1 Tryz.hT rfl rfl rfl rfl rfl rfl rfl rfl ?_
    refine wl_storeBx 0 Tryz.hT rfl rfl rfl rfl rfl rfl rfl rfl rfl rfl rfl ?_
    refine wl_pure Tryz.hT rfl rfl rfl ?_
    refine wl_nil ?_
    refine zE ?_
    refine zO ?_
    refine zP ?_
    refine zQ ?_
    refine zP ?_
    refine zP ?_
    refine zQ ?_
    refine zP ?_
    exact ne_ret2 Tryz.hT rfl (.cell 0 rfl rfl rfl rfl rfl) (.tmp rfl) (sdTo G wg k, false) rfl (.inr ⟨hbad, rfl⟩) fun W _ => NewBx.nil _ _
  injection e with e1 e2
  subst e1 e2
  have hnum := numW_ok hn
  obtain ⟨hb1, hb2⟩ := atoiAll_bounds hn
  refine zE ?_
  refine zA ?_
  refine zA ?_
  refine zT Tryz.mixed (by kernel_rfl) ?_
  refine wq_pure Tryz.hT rfl rfl rfl ?_
  refine wq_val (v := .bool false) rfl rfl (fun c e => by cases e) (fun ρ W hρ _ => neqNil_run Tryz.underlying96 rfl (hρ _ _ rfl) (hρ _ _ rfl) (.inl ⟨rfl, rfl⟩) W) ?_
  refine wq_pure Tryz.hT rfl rfl rfl ?_
  refine wq_pure Tryz.hT rfl rfl rfl ?_
  refine wq_pure Tryz.hT rfl rfl rfl ?_
  by_cases c1 : z < 0
  · have hbad : sideP l = none := hbad0 (by rw [hnum, if_pos (.inl c1)])
    refine wq_upd 62 (.bool true) rfl (congrArg Value.bool (decide_eq_true c1)) ?_
    refine wq_pure Tryz.hT rfl rfl rfl ?_
    refine wq_pure Tryz.hT rfl rfl rfl ?_
    refine wq_skip rfl rfl ?_
    refine wq_skip rfl rfl ?_
    refine wq_skip rfl rfl ?_
    refine wq_skip rfl rfl ?_
    refine wq_skip rfl rfl ?_
    refine wq_skip rfl rfl ?_
    refine wq_pure Tryz.hT rfl rfl rfl ?_
    refine wq_pure Tryz.hT rfl rfl rfl ?_
    refine wq_skip rfl rfl ?_
    refine wq_skip rfl rfl ?_
    refine wq_skip rfl rfl ?_
    refine wq_skip rfl rfl ?_
    refine wq_skip rfl rfl ?_
    refine wq_skip rfl rfl ?_
    refine wq_skip rfl rfl ?_
    refine wq_pure Tryz.hT rfl rfl rfl ?_
    refine wq_nil ?_
    refine wl_nil ?_
    refine zE ?_
    refine zR rfl ?_
    refine zA ?_
    refine zB ?_
    refine wl_loadBx 1 Tryz.hT rfl rfl rfl rfl rfl rfl rfl rfl ?_
    refine wl_storeBx 0 Tryz.hT rfl rfl rfl rfl rfl rfl rfl rfl rfl rfl rfl ?_
    refine wl_pure Tryz.hT rfl rfl rfl ?_
    refine wl_nil ?_
    refine zE ?_
    refine zO ?_
    refine zP ?_
    refine zQ ?_
    refine zP ?_
    refine zP ?_
    refine zQ ?_
    refine zP ?_
    exact ne_ret2 Tryz.hT rfl (.cell 0 rfl rfl rfl rfl rfl) (.tmp rfl) (sdTo G wg k, false) rfl (.inr ⟨hbad, rfl⟩) fun W _ => NewBx.nil _ _
  refine wq_upd 62 (.bool false) rfl (congrArg Value.bool (decide_eq_false c1)) ?_
  refine wq_pure Tryz.hT rfl rfl rfl ?_
  refine wq_pure Tryz.hT rfl rfl rfl ?_
  refine wq_pure Tryz.hT rfl rfl rfl ?_
  refine wq_pure Tryz.hT rfl rfl rfl ?_
  refine wq_indexAddr Tryz.hT rfl rfl rfl rfl rfl rfl rfl (by omega) (by omega) ?_
  refine wq_load rfl rfl rfl rfl (fun W hp => RowAt.load 0 Tryz.hT rfl ((fun W hp => hat hp rfl) W hp) rfl) ?_
  refine wq_pure Tryz.hT rfl rfl rfl ?_
  refine wq_pure Tryz.hT rfl rfl rfl ?_
  have hsz : (⟨w.toArray⟩ : ByteArray).size = w.length := by show w.toArray.size = _; simp
  by_cases c2 : 9 < w.length
  · have hbad : sideP l = none := hbad0 (by rw [hnum, if_pos (.inr (.inl c2))])
    refine wq_upd 70 (.bool true) rfl (congrArg Value.bool (show decide (((⟨w.toArray⟩ : ByteArray).size : Int) > 9) = true by rw [hsz, decide_eq_true_iff]; omega)) ?_
    refine wq_pure Tryz.hT rfl rfl rfl ?_
    refine wq_pure Tryz.hT rfl rfl rfl ?_
    refine wq_skip rfl rfl ?_
    refine wq_skip rfl rfl ?_
    refine wq_skip rfl rfl ?_
    refine wq_skip rfl rfl ?_
    refine wq_skip rfl rfl ?_
    refine wq_skip rfl rfl ?_
    refine wq_skip rfl rfl ?_
    refine wq_pure Tryz.hT rfl rfl rfl ?_
    refine wq_nil ?_
    refine wl_nil ?_
    refine zE ?_
    refine zR rfl ?_
    refine zA ?_
    refine zB ?_
    refine wl_loadBx 1 Tryz.hT rfl rfl rfl rfl rfl rfl rfl rfl ?_
    refine wl_storeBx 0 Tryz.hT rfl rfl rfl rfl rfl rfl rfl rfl rfl rfl rfl ?_
    refine wl_pure Tryz.hT rfl rfl rfl ?_
    refine wl_nil ?_
    refine zE ?_
    refine zO ?_
    refine zP ?_
    refine zQ ?_
    refine zP ?_
    refine zP ?_
    refine zQ ?_
    refine zP ?_
    exact ne_ret2 Tryz.hT rfl (.cell 0 rfl rfl rfl rfl rfl) (.tmp rfl) (sdTo G wg k, false) rfl (.inr ⟨hbad, rfl⟩) fun W _ => NewBx.nil _ _
  refine wq_upd 70 (.bool false) rfl (congrArg Value.bool (show decide (((⟨w.toArray⟩ : ByteArray).size : Int) > 9) = false by rw [hsz, decide_eq_false_iff_not]; omega)) ?_
  refine wq_pure Tryz.hT rfl rfl rfl ?_
  refine wq_pure Tryz.hT rfl rfl rfl ?_
  refine wq_pure Tryz.hT rfl rfl rfl ?_
  refine wq_call1 rfl rfl rfl rfl rfl rfl (by kernel_rfl) (fun W hp => itoa_gives z hb1 hb2 W (ht.hp hp)) ?_
  refine wq_pure Tryz.hT rfl rfl rfl ?_
  refine wq_pure Tryz.hT rfl rfl rfl ?_
  refine wq_indexAddr Tryz.hT rfl rfl rfl rfl rfl rfl rfl (by omega) (by omega) ?_
  refine wq_load rfl rfl rfl rfl (fun W hp => RowAt.load 0 Tryz.hT rfl ((fun W hp => hat hp rfl) W hp) rfl) ?_
  refine wq_pure Tryz.hT rfl rfl rfl ?_
  by_cases c3 : itoa z = w
  rotate_left
  · have hbad : sideP l = none := hbad0 (by rw [hnum, if_pos (.inr (.inr c3))])
    refine wq_upd 79 (.bool true) rfl (congrArg Value.bool (show (!((⟨(itoa z).toArray⟩ : ByteArray).toList == (⟨w.toArray⟩ : ByteArray).toList)) = true by rw [str_eq, decide_eq_false c3]; rfl)) ?_
    refine wq_pure Tryz.hT rfl rfl rfl ?_
    refine wq_nil ?_
    refine wl_nil ?_
    refine zE ?_
    refine zR rfl ?_
    refine zA ?_
    refine zB ?_
    refine wl_loadBx 1 Tryz.hT rfl rfl rfl rfl rfl rfl rfl rfl ?_
    refine wl_storeBx 0 Tryz.hT rfl rfl rfl rfl rfl rfl rfl rfl rfl rfl rfl ?_
    refine wl_pure Tryz.hT rfl rfl rfl ?_
    refine wl_nil ?_
    refine zE ?_
    refine zO ?_
    refine zP ?_
    refine zQ ?_
    refine zP ?_
    refine zP ?_
    refine zQ ?_
    refine zP ?_
    exact ne_ret2 Tryz.hT rfl (.cell 0 rfl rfl rfl rfl rfl) (.tmp rfl) (sdTo G wg k, false) rfl (.inr ⟨hbad, rfl⟩) fun W _ => NewBx.nil _ _
  refine wq_upd 79 (.bool false) rfl (congrArg Value.bool (show (!((⟨(itoa z).toArray⟩ : ByteArray).toList == (⟨w.toArray⟩ : ByteArray).toList)) = false by rw [str_eq, decide_eq_true c3]; rfl)) ?_
  have hsome : numW w = some z := by
    rw [hnum, if_neg]
    rintro (h | h | h)
    · exact c1 h
    · exact c2 h
    · exact h c3
  refine wq_pure Tryz.hT rfl rfl rfl ?_
  refine wq_nil ?_
  refine wl_nil ?_
  refine zE ?_
  refine zS rfl ?_
  refine zI ?_
  refine zE ?_
  refine zB ?_
  refine wl_pure Tryz.hT rfl rfl rfl ?_
  refine wl_pure Tryz.hT rfl rfl rfl ?_
  refine wl_nilChk rfl rfl rfl rfl ?_
  refine wl_storeTo 1 (sdTo G wg (k + 1)).cells Tryz.hT rfl rfl rfl rfl rfl rfl rfl rfl rfl rfl (by show (offsG G).getD k 0 + 1 ≤ 7; omega) (by rw [hstep z hsome]; exact setF_cells _ hoff z) ?_
  refine zC ?_
  refine zN ?_
  refine zE ?_
  refine zB ?_
  refine wl_pure Tryz.hT rfl rfl rfl ?_
  refine wl_pure Tryz.hT rfl rfl rfl ?_
  refine wl_nil ?_
  exact ne_loop (k + 1) ⟨hk, fun j hj => by
    by_cases e : j = k
    · subst e; rw [← hw, hsome]; exact fun h => by cases h
    · exact hall j (by omega)⟩ (by omega) ⟨rfl, rfl, rfl, rfl, rfl, rfl, congrArg (fun z => some (Value.int .i64 z)) (wrap_id (x := (k : Int) + 1) (by omega) (by omega)), trivial⟩ [] rfl
end Go.Proofs.YtnpfkmbcejgnjaaGreatDoor
