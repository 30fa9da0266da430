/-
  Parse: the plan with a text, if there is one.
-/
import Derived.Test.YtnpfkmbcejgnjaaGreatDoorSide
import Derived.Test.YtnpfkmbcejgnjaaGreatDoorMadeAt
namespace Go.Proofs.YtnpfkmbcejgnjaaGreatDoor
open Go Go.RowKit Go.Am Go.Lib
set_option maxRecDepth 10000
-- BOXES 6
section
variable {r : Option Nat} {n : Nat} {P : Program} {W0 : World} {N : Nat} {D : List Deferred} {ops l : List Oper} {Q : Exit → Act → World → Prop} {env : Env} {bxs : List Bx}
theorem wl_join (k i : Nat) {B C : Bx} (E : Bx) (hne : Nat.beq k i = false) (hk : nth bxs k = some B) (hi : nth bxs i = some C) (hE : E.blk = C.blk ++ B.blk) (h : WL r n P N D ops Q l env (Hp W0 ((bxs.set k E).set i gone))) : WL r n P N D ops Q l env (Hp W0 bxs) := .mk fun a W ha hd hp =>
  h.out a W ha hd (hp.join (fun e => by subst e; rw [show Nat.beq k k = true from Nat.beq_refl k] at hne; cases hne) (by rw [← nth_eq]; exact hk) (by rw [← nth_eq]; exact hi) hE)
end
theorem own_none (n : Nat) (W : World) : Go.Am.Own n [gone, mkB []] W := by
  have hb : ∀ (k : Nat) (B : Bx), [gone, mkB []][k]? = some B → B.blk = [] := fun k B h => by
    cases k with
    | zero => injection h with h; rw [← h]; rfl
    | succ k => cases k with
      | zero => injection h with h; rw [← h]; rfl
      | succ k => cases h
  refine ⟨fun k B h p hp => ?_, fun k B h => ?_, fun i j B C h _ _ p hp => ?_⟩
  · rw [hb k B h] at hp; cases hp
  · rw [hb k B h]; exact List.nodup_nil
  · rw [hb i B h] at hp; cases hp
/-- What Parse gives: rings, and why not. -/
def outP (s : List UInt8) : List (List Sd) × Int := match parseF [] s with
  | none => ([], 3)
  | some rs => if chk rs = 0 then (rs, 0) else ([], chk rs)
def curL (cur : Option (Vec × List Sd)) : Made := cur.toList
def curB (cur : Option (Vec × List Sd)) : Bx := match cur with
  | none => gone
  | some (U, l) => U.bx 42 (cellsOf l)
theorem cur_blk (mk : Made) (cur : Option (Vec × List Sd)) : (mkB (mk ++ curL cur)).blk = (curB cur).blk ++ (mkB mk).blk := by
  cases cur with
  | none => show (mkB (mk ++ [])).blk = [] ++ (mkB mk).blk; rw [List.append_nil]; rfl
  | some p => exact mkB_snoc mk p.1 p.2
abbrev rgs (mk : Made) : List (List Sd) := mk.map (·.2)
theorem rows_len (mk : Made) : (rowCells mk).length = mk.length := List.length_map ..
theorem rgs_snoc (mk : Made) (U : Vec) (l : List Sd) : rgs (mk ++ [(U, l)]) = rgs mk ++ [l] := List.map_append
structure PInv (s0 : List UInt8) (mk : Made) (cur : Option (Vec × List Sd)) (V : Vec) (s : List UInt8) : Prop where
  ok : MadeOK (mk ++ curL cur) (rgs (mk ++ curL cur))
  row : V.OK 1 (mk ++ curL cur).length (rowCells (mk ++ curL cur))
  none : cur = none → mk = []
  size : (mk ++ curL cur).length + tot (rgs (mk ++ curL cur)) + s.length ≤ 65536
  par : parseF (rgs (mk ++ curL cur)) s = parseF [] s0
theorem tot_snoc (rs : List (List Sd)) (l : List Sd) : tot (rs ++ [l]) = tot rs + l.length := by simp [tot]
set_option maxHeartbeats 16000000 in
theorem parse_gives (W : World) (s0 : List UInt8) (hs0 : s0.length ≤ 65536) (hv : VarsP W) (ht : TabP W) :
    CallsR Tryz.prog 34 #[str s0] W (fun x : Vec × Made => .tuple #[.agg #[x.1.val (outP s0).1.length], .int .i64 (outP s0).2]) (fun x => MadeOK x.2 (outP s0).1 ∧ x.1.OK 1 (outP s0).1.length (rowCells x.2)) (fun x => [x.1.bx 27 (rowCells x.2), mkB x.2]) := by
  have bad : ∀ {c : Int}, outP s0 = ([], c) → ∃ x : Vec × Made, Value.tuple #[.agg #[.slice none 0 0], .int .i64 c] = (fun x : Vec × Made => Value.tuple #[.agg #[x.1.val (outP s0).1.length], .int .i64 (outP s0).2]) x ∧ (MadeOK x.2 (outP s0).1 ∧ x.1.OK 1 (outP s0).1.length (rowCells x.2)) ∧ [x.1.bx 27 (rowCells x.2), mkB x.2] = [gone, mkB []] := fun {c} h => by
    refine ⟨(Vec.empty, []), ?_, ⟨?_, ?_⟩, rfl⟩
    · simp only [h]; rfl
    · rw [h]; exact ⟨rfl, fun p hp => by cases hp⟩
    · rw [h]; exact Vec.OK.empty 1
  refine calls_enter (args := [str s0]) Tryz.func34 rfl rfl rfl ?_
  refine zA ?_
  refine zB ?_
  (refine wl_allocZ Tryz.hZ rfl rfl rfl rfl ?_; intro)
  refine wl_pure Tryz.hT rfl rfl rfl ?_
  refine wl_nil ?_
  rename_i b2
  have hsz : ∀ l : List UInt8, (⟨l.toArray⟩ : ByteArray).size = l.length := fun l => by show l.toArray.size = _; simp
  refine zE ?_
  refine zA ?_
  refine zA ?_
  refine zB ?_
  refine wl_pure Tryz.hT rfl rfl rfl ?_
  refine wl_pure Tryz.hT rfl rfl rfl ?_
  refine wl_pure Tryz.hT rfl rfl rfl ?_
  refine wl_nil ?_
  refine zE ?_
  refine wc_cond rfl (fun h => ?_) (fun h => ?_)
  · have h' : decide (((⟨s0.toArray⟩ : ByteArray).size : Int) > 65536) = true := h
    rw [hsz, decide_eq_true_iff] at h'
    omega
  clear h
  refine zI ?_
  refine zE ?_
  refine zA ?_
  refine zB ?_
  (refine wl_allocZ Tryz.hZ rfl rfl rfl rfl ?_; intro)
  refine wl_nil ?_
  rename_i b4
  refine zE ?_
  refine zA ?_
  refine zH ?_
  refine wc_newGone ?_
  refine wc_newGrp ?_
  refine wc_newGone ?_
  refine wc_loop (X := Made × Option (Vec × List Sd) × Vec × List UInt8) (fun x => [(0, str x.2.2.2), (2, .pointer (some ⟨b2, 0, none⟩)), (3, .int .i64 0), (4, .pointer (some ⟨b4, 0, none⟩))])
    (fun x => [⟨b2, 24, [.slice none 0 0], true, none⟩, ⟨b4, 24, [x.2.2.1.val (x.1 ++ curL x.2.1).length], true, none⟩, x.2.2.1.bx 27 (rowCells (x.1 ++ curL x.2.1)), mkB x.1, curB x.2.1])
    (fun x => PInv s0 x.1 x.2.1 x.2.2.1 x.2.2.2) (fun x => x.2.2.2.length) ([], none, Vec.empty, s0) ⟨⟨rfl, fun p hp => by cases hp⟩, Vec.OK.empty 1, fun _ => rfl, by show 0 + 0 + s0.length ≤ _; omega, rfl⟩ ⟨rfl, rfl, rfl, rfl, trivial⟩ [] rfl ?_
  rintro ⟨mk, cur, V, s⟩ ⟨hok, hrow, hnone, hsize, hpar⟩
  simp only at hok hrow hnone hsize hpar
  refine zA ?_
  refine zA ?_
  refine zB ?_
  refine wl_pure Tryz.hT rfl rfl rfl ?_
  refine wl_pure Tryz.hT rfl rfl rfl ?_
  refine wl_nil ?_
  refine zE ?_
  refine wc_cond rfl (fun h => ?_) (fun h => ?_)
  rotate_left
  · have hs : s = [] := by
      have h' : (!((⟨s.toArray⟩ : ByteArray).toList == (⟨#[]⟩ : ByteArray).toList)) = false := h
      rw [bytes_list, bytes_list []] at h'
      simpa using h'
    subst hs
    rw [parseF_nil] at hpar
    clear h
    obtain ⟨full, hfull⟩ : ∃ full, full = mk ++ curL cur := ⟨_, rfl⟩
    have hjoin := cur_blk mk cur
    rw [← hfull] at hok hrow hsize hpar hjoin ⊢
    have hlen : (rgs full).length = full.length := List.length_map ..
    rw [← hlen] at hrow ⊢
    obtain ⟨q, cap, eq, fq⟩ := made_rings hok hrow
    rw [eq]
    refine zJ ?_
    refine zK ?_
    refine zK ?_
    refine zL ?_
    refine zE ?_
    refine zA ?_
    refine zA ?_
    refine zB ?_
    refine wl_join 3 4 (mkB full) rfl rfl rfl hjoin ?_
    refine wl_loadBx 1 Tryz.hT rfl rfl rfl rfl rfl rfl rfl rfl ?_
    refine wl_call1 rfl rfl rfl rfl rfl rfl (by kernel_rfl) (fun W hp => check_gives W q cap (rgs full) (by omega) (by omega) (fq hp 2 3 rfl rfl)) ?_
    refine wl_pure Tryz.hT rfl rfl rfl ?_
    refine wl_nil ?_
    refine zE ?_
    refine zA ?_
    refine zB ?_
    refine wl_pure Tryz.hT rfl rfl rfl ?_
    refine wl_pure Tryz.hT rfl rfl rfl ?_
    refine wl_nil ?_
    refine zE ?_
    refine wc_cond rfl (fun hx => ?_) (fun hx => ?_)
    · have hc : chk (rgs full) ≠ 0 := by
        have h' : (chk (rgs full) != 0) = true := hx
        simpa using h'
      have hout : outP s0 = ([], chk (rgs full)) := by unfold outP; rw [← hpar]; show (if _ then _ else _) = _; rw [if_neg hc]
      obtain ⟨x, e1, e2, e3⟩ := bad hout
      refine zA ?_
      refine zB ?_
      refine wl_buildZ Tryz.hZ Tryz.hT rfl rfl rfl rfl rfl rfl rfl rfl ?_
      refine wl_pure Tryz.hT rfl rfl rfl ?_
      refine wl_storeBx 0 Tryz.hT rfl rfl rfl rfl rfl rfl rfl rfl rfl rfl rfl ?_
      refine wl_pure Tryz.hT rfl rfl rfl ?_
      refine wl_nil ?_
      refine zE ?_
      refine zO ?_
      refine zP ?_
      exact ne_ret2 Tryz.hT rfl (.cell 0 rfl rfl rfl rfl rfl) (.tmp rfl) x e1 e2 fun W1 hp => by rw [e3]; exact own_none _ _
    · have hc : chk (rgs full) = 0 := by
        have h' : (chk (rgs full) != 0) = false := hx
        simpa using h'
      have hout : outP s0 = (rgs full, 0) := by unfold outP; rw [← hpar]; show (if _ then _ else _) = _; rw [if_pos hc]
      refine zI ?_
      refine zE ?_
      refine zA ?_
      refine zB ?_
      refine wl_loadBx 1 Tryz.hT rfl rfl rfl rfl rfl rfl rfl rfl ?_
      refine wl_storeBx 0 Tryz.hT rfl rfl rfl rfl rfl rfl rfl rfl rfl rfl rfl ?_
      refine wl_pure Tryz.hT rfl rfl rfl ?_
      refine wl_nil ?_
      refine zE ?_
      refine zO ?_
      refine ne_ret2 Tryz.hT rfl (.cell 0 rfl rfl rfl rfl rfl) (.tmp rfl) (V, full) ?_ ?_ fun W1 hp => (hp.pick [2, 3] (by decide) rfl).own
      · simp only [hout, eq]; rfl
      · simp only [hout]; exact ⟨hok, hrow⟩
  have hs : s ≠ [] := by
    have h' : (!((⟨s.toArray⟩ : ByteArray).toList == (⟨#[]⟩ : ByteArray).toList)) = true := h
    rw [bytes_list, bytes_list []] at h'
    simpa using h'
  clear h
  rcases at_first 10 s with hm | ⟨a, b, rfl, ha⟩
  · have hout : outP s0 = ([], 3) := by unfold outP; rw [← hpar, parseF_miss hm hs]
    obtain ⟨x, e1, e2, e3⟩ := bad hout
    refine zI ?_
    refine zE ?_
    refine zH ?_
    refine zA ?_
    refine zB ?_
    refine wl_pure Tryz.hT rfl rfl rfl ?_
    refine wl_call1 rfl rfl rfl rfl rfl rfl (by kernel_rfl) (fun W hp => (cut_gives W s (by omega) (hv.hp hp)).cast (by rw [cut_miss hm])) ?_
    refine wl_pure Tryz.hT rfl rfl rfl ?_
    refine wl_pure Tryz.hT rfl rfl rfl ?_
    refine wl_pure Tryz.hT rfl rfl rfl ?_
    refine wl_pure Tryz.hT rfl rfl rfl ?_
    refine wl_pure Tryz.hT rfl rfl rfl ?_
    refine wl_pure Tryz.hT rfl rfl rfl ?_
    refine wl_pure Tryz.hT rfl rfl rfl ?_
    refine wl_nil ?_
    refine zE ?_
    refine zA ?_
    refine zA ?_
    refine zB ?_
    refine wl_pure Tryz.hT rfl rfl rfl ?_
    refine wl_pure Tryz.hT rfl rfl rfl ?_
    refine wl_nil ?_
    refine zE ?_
    refine zR rfl ?_
    refine zA ?_
    refine zB ?_
    refine wl_buildZ Tryz.hZ Tryz.hT rfl rfl rfl rfl rfl rfl rfl rfl ?_
    refine wl_storeBx 0 Tryz.hT rfl rfl rfl rfl rfl rfl rfl rfl rfl rfl rfl ?_
    refine wl_pure Tryz.hT rfl rfl rfl ?_
    refine wl_nil ?_
    refine zE ?_
    refine zO ?_
    refine zP ?_
    refine zQ ?_
    refine zP ?_
    refine zQ ?_
    refine zP ?_
    exact ne_ret2 Tryz.hT rfl (.cell 0 rfl rfl rfl rfl rfl) (.tmp rfl) x e1 e2 fun W1 hp => by rw [e3]; exact own_none _ _
  rw [parseF_at b ha] at hpar
  have hlab : (a ++ 10 :: b).length = a.length + b.length + 1 := by rw [List.length_append, List.length_cons]; omega
  rw [hlab] at hsize
  refine zI ?_
  refine zE ?_
  refine zH ?_
  refine zA ?_
  refine zB ?_
  refine wl_pure Tryz.hT rfl rfl rfl ?_
  refine wl_call1 rfl rfl rfl rfl rfl rfl (by kernel_rfl) (fun W hp => (cut_gives W (a ++ 10 :: b) (by rw [hlab]; omega) (hv.hp hp)).cast (by rw [cut_at b ha])) ?_
  refine wl_pure Tryz.hT rfl rfl rfl ?_
  refine wl_pure Tryz.hT rfl rfl rfl ?_
  refine wl_pure Tryz.hT rfl rfl rfl ?_
  refine wl_pure Tryz.hT rfl rfl rfl ?_
  refine wl_pure Tryz.hT rfl rfl rfl ?_
  refine wl_pure Tryz.hT rfl rfl rfl ?_
  refine wl_pure Tryz.hT rfl rfl rfl ?_
  refine wl_nil ?_
  refine zE ?_
  refine zA ?_
  refine zA ?_
  refine zB ?_
  refine wl_pure Tryz.hT rfl rfl rfl ?_
  refine wl_pure Tryz.hT rfl rfl rfl ?_
  refine wl_nil ?_
  refine zE ?_
  refine zS rfl ?_
  refine zI ?_
  refine zE ?_
  refine zA ?_
  refine zB ?_
  refine wl_pure Tryz.hT rfl rfl rfl ?_
  refine wl_pure Tryz.hT rfl rfl rfl ?_
  refine wl_nil ?_
  refine zE ?_
  refine zA ?_
  refine zA ?_
  refine zB ?_
  refine wl_pure Tryz.hT rfl rfl rfl ?_
  refine wl_pure Tryz.hT rfl rfl rfl ?_
  refine wl_nil ?_
  refine zE ?_
  refine wc_cond rfl (fun hx => ?_) (fun hx => ?_)
  · have hr : a = ringW := by
      have h' : ((⟨a.toArray⟩ : ByteArray).toList == (⟨ringW.toArray⟩ : ByteArray).toList) = true := hx
      rw [str_eq, decide_eq_true_iff] at h'
      exact h'
    rw [if_pos hr] at hpar
    obtain ⟨full, hfull⟩ : ∃ full, full = mk ++ curL cur := ⟨_, rfl⟩
    have hjoin := cur_blk mk cur
    rw [← hfull] at hok hrow hsize hpar hjoin ⊢
    refine zA ?_
    refine zB ?_
    refine wl_pure Tryz.hT rfl rfl rfl ?_
    refine wl_loadBx 1 Tryz.hT rfl rfl rfl rfl rfl rfl rfl rfl ?_
    (refine wl_buildRowZ Tryz.hZ Tryz.hT rfl rfl rfl rfl rfl rfl rfl rfl rfl rfl rfl ?_; intro)
    rename_i b32
    refine wl_appendTo (V := V) (len := full.length) (xs := rowCells full) 2 5 Tryz.vec22 (full ++ [(Vec.empty, [])]).length (rowCells (full ++ [(Vec.empty, [])])) rfl rfl rfl rfl rfl rfl rfl rfl rfl rfl rfl hrow rfl rfl (by rw [List.length_append]; rfl) (by rw [rowCells_snoc]; rfl) (by rw [List.length_append, List.length_singleton]; simp only [maxLen]; omega) (by rw [List.length_append, List.length_singleton]; omega) rfl ?_
    intro g c1 j1 hV1
    refine wl_pure Tryz.hT rfl rfl rfl ?_
    refine wl_storeBx 1 Tryz.hT rfl rfl rfl rfl rfl rfl rfl rfl rfl rfl rfl ?_
    refine wl_nil ?_
    refine ne_join 3 4 (mkB full) rfl rfl rfl hjoin ?_
    refine zE ?_
    refine zJ ?_
    refine zK ?_
    refine zL ?_
    refine ne_loop (full, some (Vec.empty, []), ⟨some g, c1, j1⟩, b) ⟨?_, hV1, fun h => (by cases h), ?_, ?_⟩ (by show b.length < (a ++ 10 :: b).length; omega) ⟨rfl, rfl, rfl, rfl, trivial⟩ [_] rfl
    · show MadeOK (full ++ [(Vec.empty, [])]) (rgs (full ++ [(Vec.empty, [])]))
      rw [rgs_snoc]; exact hok.snoc (Vec.OK.empty 7)
    · show (full ++ [(Vec.empty, [])]).length + tot (rgs (full ++ [(Vec.empty, [])])) + b.length ≤ 65536
      rw [rgs_snoc, tot_snoc, List.length_append, List.length_singleton, List.length_nil]; omega
    · show parseF (rgs (full ++ [(Vec.empty, [])])) b = _
      rw [rgs_snoc]; exact hpar
  have hr : a ≠ ringW := by
    have h' : ((⟨a.toArray⟩ : ByteArray).toList == (⟨ringW.toArray⟩ : ByteArray).toList) = false := hx
    rw [str_eq, decide_eq_false_iff_not] at h'
    exact h'
  clear hx
  rw [if_neg hr] at hpar
  refine zI ?_
  refine zE ?_
  refine zA ?_
  refine zB ?_
  refine wl_pure Tryz.hT rfl rfl rfl ?_
  refine wl_call (X := Sd × Bool) rfl rfl rfl rfl rfl rfl (by kernel_rfl) (fun W hp => side_gives W a (by omega) (hv.hp hp) (ht.hp hp)) ?_
  rintro ⟨sx, okb⟩ hside
  refine wl_pure Tryz.hT rfl rfl rfl ?_
  refine wl_pure Tryz.hT rfl rfl rfl ?_
  refine wl_pure Tryz.hT rfl rfl rfl ?_
  (refine wl_allocZ Tryz.hZ rfl rfl rfl rfl ?_; intro)
  refine wl_storeBx 5 Tryz.hT rfl rfl rfl rfl rfl rfl rfl rfl rfl rfl rfl ?_
  refine wl_pure Tryz.hT rfl rfl rfl ?_
  refine wl_nil ?_
  rename_i b8
  rcases hside with ⟨sy, hx, e⟩ | ⟨hx, e⟩
  rotate_left
  · change okb = false at e
    subst e
    rw [hx] at hpar
    have hout : outP s0 = ([], 3) := by unfold outP; rw [← hpar]
    obtain ⟨x, e1, e2, e3⟩ := bad hout
    refine zE ?_
    refine zA ?_
    refine zA ?_
    refine zB ?_
    refine wl_pure Tryz.hT rfl rfl rfl ?_
    refine wl_pure Tryz.hT rfl rfl rfl ?_
    refine wl_pure Tryz.hT rfl rfl rfl ?_
    refine wl_skip rfl rfl ?_
    refine wl_skip rfl rfl ?_
    refine wl_skip rfl rfl ?_
    refine wl_skip rfl rfl ?_
    refine wl_pure Tryz.hT rfl rfl rfl ?_
    refine wl_nil ?_
    refine zE ?_
    refine zR rfl ?_
    refine zA ?_
    refine zB ?_
    refine wl_buildZ Tryz.hZ Tryz.hT rfl rfl rfl rfl rfl rfl rfl rfl ?_
    refine wl_storeBx 0 Tryz.hT rfl rfl rfl rfl rfl rfl rfl rfl rfl rfl rfl ?_
    refine wl_pure Tryz.hT rfl rfl rfl ?_
    refine wl_nil ?_
    refine zE ?_
    refine zO ?_
    refine zP ?_
    refine zQ ?_
    refine zP ?_
    refine zQ ?_
    refine zP ?_
    exact ne_ret2 Tryz.hT rfl (.cell 0 rfl rfl rfl rfl rfl) (.tmp rfl) x e1 e2 fun W1 hp => by rw [e3]; exact own_none _ _
  injection e with e4 e5
  subst e4 e5
  rw [hx] at hpar
  cases cur with
  | none =>
    have hmk := hnone rfl
    subst hmk
    have hout : outP s0 = ([], 3) := by unfold outP; rw [← hpar]; rfl
    obtain ⟨x, e1, e2, e3⟩ := bad hout
    obtain ⟨pv, cv, jv⟩ := V
    cases pv with
    | none =>
      refine zE ?_
      refine zA ?_
      refine zA ?_
      refine zB ?_
      refine wl_pure Tryz.hT rfl rfl rfl ?_
      refine wl_pure Tryz.hT rfl rfl rfl ?_
      refine wl_pure Tryz.hT rfl rfl rfl ?_
      refine wl_pure Tryz.hT rfl rfl rfl ?_
      refine wl_loadBx 1 Tryz.hT rfl rfl rfl rfl rfl rfl rfl rfl ?_
      refine wl_pure Tryz.hT rfl rfl rfl ?_
      refine wl_pure Tryz.hT rfl rfl rfl ?_
      refine wl_upd 46 (.bool true) rfl rfl ?_
      refine wl_pure Tryz.hT rfl rfl rfl ?_
      refine wl_nil ?_
      refine zE ?_
      refine zR rfl ?_
      refine zA ?_
      refine zB ?_
      refine wl_buildZ Tryz.hZ Tryz.hT rfl rfl rfl rfl rfl rfl rfl rfl ?_
      refine wl_storeBx 0 Tryz.hT rfl rfl rfl rfl rfl rfl rfl rfl rfl rfl rfl ?_
      refine wl_pure Tryz.hT rfl rfl rfl ?_
      refine wl_nil ?_
      refine zE ?_
      refine zO ?_
      refine zP ?_
      refine zQ ?_
      refine zP ?_
      refine zQ ?_
      refine zP ?_
      exact ne_ret2 Tryz.hT rfl (.cell 0 rfl rfl rfl rfl rfl) (.tmp rfl) x e1 e2 fun W1 hp => by rw [e3]; exact own_none _ _
    | some g =>
      refine zE ?_
      refine zA ?_
      refine zA ?_
      refine zB ?_
      refine wl_pure Tryz.hT rfl rfl rfl ?_
      refine wl_pure Tryz.hT rfl rfl rfl ?_
      refine wl_pure Tryz.hT rfl rfl rfl ?_
      refine wl_pure Tryz.hT rfl rfl rfl ?_
      refine wl_loadBx 1 Tryz.hT rfl rfl rfl rfl rfl rfl rfl rfl ?_
      refine wl_pure Tryz.hT rfl rfl rfl ?_
      refine wl_pure Tryz.hT rfl rfl rfl ?_
      refine wl_upd 46 (.bool true) rfl rfl ?_
      refine wl_pure Tryz.hT rfl rfl rfl ?_
      refine wl_nil ?_
      refine zE ?_
      refine zR rfl ?_
      refine zA ?_
      refine zB ?_
      refine wl_buildZ Tryz.hZ Tryz.hT rfl rfl rfl rfl rfl rfl rfl rfl ?_
      refine wl_storeBx 0 Tryz.hT rfl rfl rfl rfl rfl rfl rfl rfl rfl rfl rfl ?_
      refine wl_pure Tryz.hT rfl rfl rfl ?_
      refine wl_nil ?_
      refine zE ?_
      refine zO ?_
      refine zP ?_
      refine zQ ?_
      refine zP ?_
      refine zQ ?_
      refine zP ?_
      exact ne_ret2 Tryz.hT rfl (.cell 0 rfl rfl rfl rfl rfl) (.tmp rfl) x e1 e2 fun W1 hp => by rw [e3]; exact own_none _ _
  | some p =>
  obtain ⟨U, l⟩ := p
  change MadeOK (mk ++ [(U, l)]) (rgs (mk ++ [(U, l)])) at hok
  change V.OK 1 (mk ++ [(U, l)]).length (rowCells (mk ++ [(U, l)])) at hrow
  change (mk ++ [(U, l)]).length + tot (rgs (mk ++ [(U, l)])) + (a.length + b.length + 1) ≤ 65536 at hsize
  change (if rgs (mk ++ [(U, l)]) = [] then none else parseF ((rgs (mk ++ [(U, l)])).dropLast ++ [(rgs (mk ++ [(U, l)])).getLastD [] ++ [sx]]) b) = parseF [] s0 at hpar
  rw [rgs_snoc, if_neg (by simp), List.dropLast_concat] at hpar
  have hlast : (rgs mk ++ [l]).getLastD [] = l := by simp
  rw [hlast] at hpar
  have hnl : (mk ++ [(U, l)]).length = mk.length + 1 := by rw [List.length_append]; rfl
  rw [rgs_snoc, tot_snoc] at hsize
  have hUok : U.OK 7 l.length (cellsOf l) := hok.ok (U, l) (List.mem_append_right _ (List.mem_singleton.2 rfl))
  obtain ⟨pv, cv, jv⟩ := V
  cases pv with
  | none => have := hrow.nil rfl; omega
  | some g =>
  refine zE ?_
  refine zA ?_
  refine zA ?_
  refine zB ?_
  refine wl_pure Tryz.hT rfl rfl rfl ?_
  refine wl_pure Tryz.hT rfl rfl rfl ?_
  refine wl_pure Tryz.hT rfl rfl rfl ?_
  refine wl_pure Tryz.hT rfl rfl rfl ?_
  refine wl_loadBx 1 Tryz.hT rfl rfl rfl rfl rfl rfl rfl rfl ?_
  refine wl_pure Tryz.hT rfl rfl rfl ?_
  refine wl_pure Tryz.hT rfl rfl rfl ?_
  refine wl_upd 46 (.bool false) rfl (congrArg Value.bool (show ((((mk ++ [(U, l)]).length : Nat) : Int) == 0) = false by rw [beq_eq_false_iff_ne]; omega)) ?_
  refine wl_pure Tryz.hT rfl rfl rfl ?_
  refine wl_nil ?_
  refine zE ?_
  refine zS rfl ?_
  refine zI ?_
  refine zE ?_
  refine zA ?_
  refine zB ?_
  refine wl_pure Tryz.hT rfl rfl rfl ?_
  refine wl_loadBx 1 Tryz.hT rfl rfl rfl rfl rfl rfl rfl rfl ?_
  refine wl_pure Tryz.hT rfl rfl rfl ?_
  refine wl_pure Tryz.hT rfl rfl rfl ?_
  refine wl_upd 52 (.int .i64 (mk.length : Nat)) rfl (congrArg (Value.int .i64) (show w64 ((((mk ++ [(U, l)]).length : Nat) : Int) - 1) = (mk.length : Nat) by rw [w64_id (by omega) (by omega)]; omega)) ?_
  refine wl_pure Tryz.hT rfl rfl rfl ?_
  refine wl_nil ?_
  have hrc : rowCells (mk ++ [(U, l)]) = rowCells mk ++ [U.val l.length] := rowCells_snoc mk U l
  have hval : (rowCells (mk ++ [(U, l)]))[mk.length]? = some (U.val l.length) := by rw [hrc, List.getElem?_append_right (by rw [rows_len]; exact Nat.le_refl _), rows_len, Nat.sub_self]; rfl
  have hfit := (hrow.cap (by simp)).2.2
  simp only at hfit
  have hl1 : (l ++ [sx]).length = l.length + 1 := by rw [List.length_append]; rfl
  have hcl : cellsOf (l ++ [sx]) = cellsOf l ++ sx.cells := by rw [cellsOf_append]; simp [cellsOf]
  refine zE ?_
  repeat refine wc_seq ?_
  refine wc_lateY (X := { x : Nat × Nat × List Value // (⟨some x.1, x.2.1, x.2.2⟩ : Vec).OK 7 (l ++ [sx]).length (cellsOf (l ++ [sx])) }) [true, true, true, true, true, true, true, true, true, false, false, false, false] (fun _ => [(0, str b), (2, .pointer (some ⟨b2, 0, none⟩)), (3, .int .i64 0), (4, .pointer (some ⟨b4, 0, none⟩))])
    (fun x => [⟨b2, 24, [.slice none 0 0], true, none⟩, ⟨b4, 24, [.slice (some ⟨g, 0, none⟩) (mk ++ [(U, l)]).length cv], true, none⟩, ⟨g, 27, rowCells (mk ++ [((⟨some x.1.1, x.1.2.1, x.1.2.2⟩ : Vec), l ++ [sx])]) ++ jv, true, none⟩, mkB mk, ⟨x.1.1, 42, cellsOf (l ++ [sx]) ++ x.1.2.2, true, none⟩])
    4 [⟨b2, 24, [.slice none 0 0], true, none⟩, ⟨b4, 24, [.slice (some ⟨g, 0, none⟩) (mk ++ [(U, l)]).length cv], true, none⟩, ⟨g, 27, rowCells (mk ++ [(U, l)]) ++ jv, true, none⟩, mkB mk, gone, ⟨b8, 42, sx.cells, true, none⟩] Tryz.mixed (by kernel_rfl) ?_ ?_
  · refine wq_pure Tryz.hT rfl rfl rfl ?_
    refine wq_loadBx 1 Tryz.hT rfl rfl rfl rfl rfl rfl rfl rfl ?_
    refine wq_pure Tryz.hT rfl rfl rfl ?_
    refine wq_pure Tryz.hT rfl rfl rfl ?_
    refine wq_loadBx 1 Tryz.hT rfl rfl rfl rfl rfl rfl rfl rfl ?_
    refine wq_pure Tryz.hT rfl rfl rfl ?_
    refine wq_indexAddr Tryz.hT rfl rfl rfl rfl rfl rfl rfl (by omega) (by omega) ?_
    refine wq_load rfl rfl rfl rfl (fun W hp => RowAt.load 0 Tryz.hT rfl ((fun W1 hp => row_val hp 2 rfl hval) W hp) rfl) ?_
    refine wq_loadBx 5 Tryz.hT rfl rfl rfl rfl rfl rfl rfl rfl ?_
    refine wq_wt ?_
    refine wt_step rfl rfl (by ((repeat (first | refine Weak.same ?_ | refine Weak.off rfl ?_)); exact trivial)) ?_
    refine RS.cons ?_ (RS.nil)
    (refine wl_buildRowZ Tryz.hZ Tryz.hT rfl rfl rfl rfl rfl rfl rfl rfl rfl rfl rfl ?_; intro)
    refine wl_nil ?_
    refine ne_wt ?_
    refine wt_step rfl rfl (by ((repeat (first | refine Weak.same ?_ | refine Weak.off rfl ?_)); exact trivial)) ?_
    refine RS.cons ?_ (RS.nil)
    refine wl_appendTo (V := U) (len := l.length) (xs := cellsOf l) 4 6 Tryz.vec27 (l ++ [sx]).length (cellsOf (l ++ [sx])) rfl rfl rfl rfl rfl rfl rfl rfl rfl rfl rfl hUok rfl rfl hl1.symm (by rw [hcl]; rfl) (by rw [hl1]; simp only [maxLen]; omega) (by rw [hl1]; omega) rfl ?_; intro gU cU jU hU'
    refine wl_nil ?_
    refine ne_wt ?_
    refine wt_step rfl rfl (by ((repeat (first | refine Weak.same ?_ | refine Weak.off rfl ?_)); exact trivial)) ?_
    refine RS.cons ?_ (RS.nil)
    refine wl_indexAddr Tryz.hT rfl rfl rfl rfl rfl rfl rfl (by omega) (by omega) ?_
    refine wl_nil ?_
    refine ne_wt ?_
    refine wt_step rfl rfl (by ((repeat (first | refine Weak.same ?_ | refine Weak.off rfl ?_)); exact trivial)) ?_
    refine RS.cons ?_ (RS.nil)
    refine wl_storeTo 2 (rowCells (mk ++ [((⟨some gU, cU, jU⟩ : Vec), l ++ [sx])]) ++ jv) Tryz.hT rfl rfl rfl rfl rfl rfl rfl rfl rfl rfl (by show 0 + mk.length * 1 + 1 ≤ (rowCells (mk ++ [(U, l)]) ++ jv).length; rw [List.length_append, rows_len]; omega) (by show splice (rowCells (mk ++ [(U, l)]) ++ jv) (0 + mk.length * 1) [.slice (some ⟨gU, 0, none⟩) (l ++ [sx]).length cU] = _; rw [hrc, rowCells_snoc, List.append_assoc, List.append_assoc, Nat.zero_add, Nat.mul_one, ← rows_len mk]; exact splice_mid (rowCells mk) [U.val l.length] jv [(⟨some gU, cU, jU⟩ : Vec).val (l ++ [sx]).length] rfl) ?_
    refine wl_nil ?_
    refine ne_wt ?_
    refine wt_doneF rfl (by kernel_rfl) ?_
    exact ne_late ⟨(gU, cU, jU), hU'⟩ ⟨rfl, rfl, rfl, rfl, trivial⟩ [0, 1, 2, 3, 4] (by decide) rfl
  rintro ⟨⟨gU, cU, jU⟩, hU'⟩
  change (⟨some gU, cU, jU⟩ : Vec).OK 7 (l ++ [sx]).length (cellsOf (l ++ [sx])) at hU'
  refine zN ?_
  have hnl2 : (mk ++ [((⟨some gU, cU, jU⟩ : Vec), l ++ [sx])]).length = (mk ++ [(U, l)]).length := by rw [List.length_append, List.length_append]; rfl
  refine ne_loop (mk, some (⟨some gU, cU, jU⟩, l ++ [sx]), ⟨some g, cv, jv⟩, b) ⟨?_, ?_, fun h => (by cases h), ?_, ?_⟩ (by show b.length < (a ++ 10 :: b).length; omega) ⟨rfl, rfl, rfl, rfl, trivial⟩ [] ?_
  · show MadeOK (mk ++ [((⟨some gU, cU, jU⟩ : Vec), l ++ [sx])]) (rgs (mk ++ [((⟨some gU, cU, jU⟩ : Vec), l ++ [sx])]))
    refine ⟨rfl, fun p hp => ?_⟩
    rcases List.mem_append.1 hp with hp | hp
    · exact hok.ok p (List.mem_append_left _ hp)
    · obtain rfl := List.mem_singleton.1 hp; exact hU'
  · show (⟨some g, cv, jv⟩ : Vec).OK 1 (mk ++ [((⟨some gU, cU, jU⟩ : Vec), l ++ [sx])]).length (rowCells (mk ++ [((⟨some gU, cU, jU⟩ : Vec), l ++ [sx])]))
    have hr1 := rows_len (mk ++ [((⟨some gU, cU, jU⟩ : Vec), l ++ [sx])])
    have hr2 := rows_len (mk ++ [(U, l)])
    have hcp := hrow.cap (by simp)
    refine ⟨by rw [hr1, Nat.mul_one], fun h => (by cases h), fun _ => ⟨by rw [hnl2]; exact hcp.1, hcp.2.1, by rw [hr1, hnl2, ← hr2]; exact hcp.2.2⟩⟩
  · show (mk ++ [((⟨some gU, cU, jU⟩ : Vec), l ++ [sx])]).length + tot (rgs (mk ++ [((⟨some gU, cU, jU⟩ : Vec), l ++ [sx])])) + b.length ≤ 65536
    rw [rgs_snoc, tot_snoc, hnl2, hl1]; omega
  · show parseF (rgs (mk ++ [((⟨some gU, cU, jU⟩ : Vec), l ++ [sx])])) b = _
    rw [rgs_snoc]; exact hpar
  · show _ = [_, (⟨b4, 24, [.slice (some ⟨g, 0, none⟩) (mk ++ [((⟨some gU, cU, jU⟩ : Vec), l ++ [sx])]).length cv], true, none⟩ : Bx), _, _, _] ++ []
    rw [hnl2]; rfl
end Go.Proofs.YtnpfkmbcejgnjaaGreatDoor
