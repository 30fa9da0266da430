/-
  Lemmas that the theorem frontMeets_upto_card needs (part 5 of 5).
-/
import Derived.Test.YteaiopkopifijaaGreatDoorMed
import Derived.Shelf.SlicesG.CompactS
import Derived.Laws.StructEq
import Derived.Test.YteaiopkopifijaaGreatDoorRows
import Derived.Test.YteaiopkopifijaaGreatDoorCards
import Derived.Test.YteaiopkopifijaaGreatDoorTie
import Derived.Deep.Slices
import Derived.ChangeArms
import Derived.ChangeShapes
import Derived.WideShapes
import Derived.Carry
import Derived.ProofKit
import Derived.OpenShut
import Derived.Deep.DeepHandedRow
import Derived.Lib.LaidTab
import Derived.Stop.LaidErr
import Derived.Lay
import Derived.SevenTiedAt
import Derived.Shelf.Vars
namespace Go.Proofs.YteaiopkopifijaaGreatDoor
open Go Go.RowKit Go.Am Go.Lib
set_option maxRecDepth 10000
-- BOXES 3
abbrev cs (l : List (List UInt8)) : List Value := l.map Go.Proofs.encStr
theorem cs_get {l : List (List UInt8)} {j : Nat} (h : j < l.length) (junk : List Value) : (cs l ++ junk)[j]? = some (Go.Proofs.encStr l.toArray[j]!) := by
  rw [List.getElem?_append_left (by simpa using h), List.getElem?_map, List.getElem?_eq_getElem h, getElem!_pos l.toArray j (by simpa using h)]; simp
theorem cs_holds {W : World} {g : Nat} {zs : List (List UInt8)} {junk : List Value} {ty : TypeId} (h : W.heap[g]? = some (.cells (cs zs ++ junk).toArray ty (0, 0))) : Sort.Holds Go.Proofs.encStr W g 0 zs.toArray := fun j hj => by
  have hj' : j < zs.length := by simpa using hj
  have h1 := cs_get hj' junk
  constructor
  · simp only [World.cell?, h, Nat.zero_add]
    rw [List.getElem?_toArray]; exact h1
  · simp [World.frozen?, h]
theorem putCells_cs {zs zs' : List (List UInt8)} (hl : zs'.length = zs.length) (junk : List Value) : Sort.putCells Go.Proofs.encStr 0 zs'.toArray (cs zs ++ junk).toArray = (cs zs' ++ junk).toArray := by
  apply Array.ext_getElem?
  intro k
  simp only [Sort.putCells, Array.getElem?_mapIdx, List.getElem?_toArray, List.size_toArray, Nat.zero_add, Nat.sub_zero, Nat.zero_le, true_and]
  by_cases hk : k < zs.length
  · rw [cs_get hk, cs_get (show k < zs'.length by omega), Option.map_some, if_pos (by omega)]
  · rw [List.getElem?_append_right (by simp; omega), List.getElem?_append_right (by simp; omega)]
    simp only [List.length_map, hl]
    cases junk[k - zs.length]? with
    | none => rfl
    | some y => rw [Option.map_some, if_neg (by omega)]
theorem putCs_near {W : World} {g : Nat} {zs zs' : List (List UInt8)} {junk : List Value} {ty : TypeId} (h : W.heap[g]? = some (.cells (cs zs ++ junk).toArray ty (0, 0))) (hl : zs'.length = zs.length) (n : Nat) :
    Near W (Sort.putRow Go.Proofs.encStr (Sort.ahead W n) g 0 zs'.toArray) g g (.cells (cs zs' ++ junk).toArray ty (0, 0)) := by
  have hlt : g < W.heap.size := (Array.getElem?_eq_some_iff.1 h).1
  have hs : ∀ x, x < W.heap.size → (Sort.putRow Go.Proofs.encStr (Sort.ahead W n) g 0 zs'.toArray).heap[x]? = (W.heap.modify g (Sort.onCells (Sort.putCells Go.Proofs.encStr 0 zs'.toArray)))[x]? := fun x hx => rfl
  refine ⟨rfl, rfl, rfl, ?_, ?_, .inl rfl, fun x hx hlt' => ?_⟩
  · show W.heap.size ≤ (W.heap.modify g _).size
    simp
  · rw [hs g hlt, Array.getElem?_modify, if_pos rfl, h, Option.map_some]
    show some (Obj.cells (Sort.putCells _ _ _ _) _ _) = _
    rw [putCells_cs hl]
  · rw [hs x hlt', Array.getElem?_modify, if_neg (fun e => hx e.symm)]
theorem compQ_len (l : List Rat) : (compQ l).length ≤ l.length := by
  fun_induction compQ l with
  | case1 => exact Nat.le_refl _
  | case2 x => exact Nat.le_refl _
  | case3 x l ih => simp only [List.length_cons] at ih ⊢; omega
  | case4 x y l h ih => simp only [List.length_cons] at ih ⊢; omega
theorem cs_nS (l : List Rat) : cs (l.map numS) = nS l := by simp [nS, cs]
/-- What lies behind the kept ones. -/
abbrev compJ (l : List Rat) (junk : List Value) : List Value := cs (List.replicate (l.length - (compQ l).length) []) ++ junk
theorem compN_gives {W : World} {g cap : Nat} {l : List Rat} {junk : List Value} {ty : TypeId} (h : W.heap[g]? = some (.cells (nS l ++ junk).toArray ty (0, 0))) (hn : l.length ≤ 9223372036854775807) (hcap : l.length ≤ cap) :
    Calls Tryz.prog 51 #[.slice (some ⟨g, 0, none⟩) l.length cap] W fun e W' => ∃ x : Unit, e = .returned ((fun _ => .slice (some ⟨g, 0, none⟩) (compQ l).length cap) x) ∧ True ∧
      Near W W' g ((fun _ => g) x) ((fun _ => .cells (nS (compQ l) ++ compJ l junk).toArray ty (0, 0)) x) := by
  have hl := compQ_len l
  rw [← cs_nS] at h
  have h1 := Go.Proofs.AnyG.slices_Compact_string (P := Tryz.prog) (ρ := Tryz.laysN44_ren) Tryz.laysN44 g 0 cap (l.map numS) W (cs_holds h) (by rw [List.length_map]; exact hn) (by rw [List.length_map]; exact hcap)
  rw [compact_comp, List.length_map, List.length_map] at h1
  refine h1.mono ?_
  rintro e W' ⟨rfl, n, rfl⟩
  refine ⟨(), rfl, trivial, ?_⟩
  have h2 := putCs_near (zs' := (compQ l).map numS ++ List.replicate (l.length - (compQ l).length) []) h (by rw [List.length_append, List.length_replicate, List.length_map, List.length_map]; omega) n
  have e : cs ((compQ l).map numS ++ List.replicate (l.length - (compQ l).length) []) ++ junk = nS (compQ l) ++ compJ l junk := by
    rw [← cs_nS, ← List.append_assoc]; congr 1; exact List.map_append
  rw [e] at h2
  exact h2
theorem sort0_gives (W : World) (p : Option Addr) (cap : Nat) : CallsR Tryz.prog 49 #[.slice p 0 cap, .func (.func 50) #[] #[]] W (fun _ : Unit => .tuple #[]) (fun _ => True) (fun _ => []) := by
  refine calls_enter (args := [.slice p 0 cap, .func (.func 50) #[] #[]]) Tryz.func49 rfl rfl rfl ?_
  repeat (first | refine zA ?_ | refine zB ?_ | refine zC ?_ | refine zD ?_ | refine zE ?_ | refine zF ?_ | refine zG ?_ | refine zH ?_ | refine zI ?_ | refine zJ ?_ | refine zK ?_ | refine zL ?_ | refine zM rfl ?_ | refine zN ?_ | refine zO ?_ | refine zP ?_ | refine zQ ?_ | refine zR rfl ?_ | refine zS rfl ?_ | refine zT Tryz.mixed (by kernel_rfl) ?_)
  iterate 3 refine wl_pure Tryz.hT rfl rfl rfl ?_
  refine wl_nil ?_
  repeat (first | refine zA ?_ | refine zB ?_ | refine zC ?_ | refine zD ?_ | refine zE ?_ | refine zF ?_ | refine zG ?_ | refine zH ?_ | refine zI ?_ | refine zJ ?_ | refine zK ?_ | refine zL ?_ | refine zM rfl ?_ | refine zN ?_ | refine zO ?_ | refine zP ?_ | refine zQ ?_ | refine zR rfl ?_ | refine zS rfl ?_ | refine zT Tryz.mixed (by kernel_rfl) ?_)
  iterate 3 refine wl_pure Tryz.hT rfl rfl rfl ?_
  refine wl_cvA (k := .u64) (kt := .i64) (by kernel_rfl) (by kernel_rfl) rfl rfl rfl rfl ?_
  refine wl_upd 10 (.int .u64 ((0 : Nat) : Int)) rfl rfl ?_
  refine wl_call1 (capt := []) rfl rfl rfl rfl rfl rfl (by kernel_rfl) (fun W _ => bitLen_gives 0 (by omega) W) ?_
  refine wl_pure Tryz.hT rfl rfl rfl ?_
  refine wl_call1 (capt := []) rfl rfl rfl rfl rfl rfl (by kernel_rfl) (fun W _ => pdq0_gives W p cap _) ?_
  refine wl_nil ?_
  repeat (first | refine zA ?_ | refine zB ?_ | refine zC ?_ | refine zD ?_ | refine zE ?_ | refine zF ?_ | refine zG ?_ | refine zH ?_ | refine zI ?_ | refine zJ ?_ | refine zK ?_ | refine zL ?_ | refine zM rfl ?_ | refine zN ?_ | refine zO ?_ | refine zP ?_ | refine zQ ?_ | refine zR rfl ?_ | refine zS rfl ?_ | refine zT Tryz.mixed (by kernel_rfl) ?_)
  exact ne_end0 (X := Unit) (val := fun _ => .tuple #[]) (Φ := fun _ => True) (nb := fun _ => []) (fn := Tryz.f49) Tryz.hT rfl () rfl trivial fun W _ => NewBx.nil _ _
theorem comp0_gives (W : World) (p : Option Addr) (cap : Nat) : CallsR Tryz.prog 51 #[.slice p 0 cap] W (fun _ : Unit => .slice p 0 cap) (fun _ => True) (fun _ => []) := by
  refine calls_enter (args := [.slice p 0 cap]) Tryz.func51 rfl rfl rfl ?_
  repeat (first | refine zA ?_ | refine zB ?_ | refine zC ?_ | refine zD ?_ | refine zE ?_ | refine zF ?_ | refine zG ?_ | refine zH ?_ | refine zI ?_ | refine zJ ?_ | refine zK ?_ | refine zL ?_ | refine zM rfl ?_ | refine zN ?_ | refine zO ?_ | refine zP ?_ | refine zQ ?_ | refine zR rfl ?_ | refine zS rfl ?_ | refine zT Tryz.mixed (by kernel_rfl) ?_)
  refine wl_pure Tryz.hT rfl rfl rfl ?_
  refine wl_nil ?_
  repeat (first | refine zA ?_ | refine zB ?_ | refine zC ?_ | refine zD ?_ | refine zE ?_ | refine zF ?_ | refine zG ?_ | refine zH ?_ | refine zI ?_ | refine zJ ?_ | refine zK ?_ | refine zL ?_ | refine zM rfl ?_ | refine zN ?_ | refine zO ?_ | refine zP ?_ | refine zQ ?_ | refine zR rfl ?_ | refine zS rfl ?_ | refine zT Tryz.mixed (by kernel_rfl) ?_)
  iterate 3 refine wl_pure Tryz.hT rfl rfl rfl ?_
  refine wl_nil ?_
  repeat (first | refine zA ?_ | refine zB ?_ | refine zC ?_ | refine zD ?_ | refine zE ?_ | refine zF ?_ | refine zG ?_ | refine zH ?_ | refine zI ?_ | refine zJ ?_ | refine zK ?_ | refine zL ?_ | refine zM rfl ?_ | refine zN ?_ | refine zO ?_ | refine zP ?_ | refine zQ ?_ | refine zR rfl ?_ | refine zS rfl ?_ | refine zT Tryz.mixed (by kernel_rfl) ?_)
  iterate 2 refine wl_pure Tryz.hT rfl rfl rfl ?_
  refine wl_nil ?_
  repeat (first | refine zA ?_ | refine zB ?_ | refine zC ?_ | refine zD ?_ | refine zE ?_ | refine zF ?_ | refine zG ?_ | refine zH ?_ | refine zI ?_ | refine zJ ?_ | refine zK ?_ | refine zL ?_ | refine zM rfl ?_ | refine zN ?_ | refine zO ?_ | refine zP ?_ | refine zQ ?_ | refine zR rfl ?_ | refine zS rfl ?_ | refine zT Tryz.mixed (by kernel_rfl) ?_)
  exact ne_ret1 Tryz.hT rfl (.tmp rfl) () rfl trivial fun W _ => NewBx.nil _ _
theorem set_same_get {α : Type} {l : List α} {k : Nat} {x : α} (h : l[k]? = some x) : l.set k x = l := by
  obtain ⟨h1, rfl⟩ := List.getElem?_eq_some_iff.1 h
  exact List.set_getElem_self h1
section
variable {r : Option Nat} {n : Nat} {W0 : World} {N : Nat} {D : List Deferred} {ops : List Oper} {Q : Exit → Act → World → Prop} {o : Oper} {rest : List Oper} {env : Env} {bxs : List Bx}
/-- slices.SortFunc of numbers that were appended (none of them, perhaps). -/
theorem wl_sortQ (k : Nat) (hv0 : MaxP W0) (ht0 : TabP W0) {c : Call} {f : Operand} {d : Nat} {V : Vec} {l : List Rat} {len : Nat}
    (hg : guardE ops N env o = some true) (hd : o.dst = some d) (ho : o.op = .call c) (hc : c.callee = .value f) (hf : evO N env f = some (.func (.func 49) #[] #[])) (ha : evArgs (evO N env) c.args.toList = some [V.val len, .func (.func 50) #[] #[]])
    (hk : nth bxs k = some (V.bx 28 (nS l))) (hlen : len = l.length) (hV : V.OK 1 len (nS l)) (hn : l.length ≤ 12) (hz : ∀ p ∈ l, ∀ q ∈ l, Sz2 p q)
    (h : WL r n Tryz.prog N D ops Q rest ((d, .tuple #[]) :: env) (Hp W0 (bxs.set k (V.bx 28 (nS (sortQ l)))))) : WL r n Tryz.prog N D ops Q (o :: rest) env (Hp W0 bxs) := by
  subst hlen
  obtain ⟨p, cap, junk⟩ := V
  cases p with
  | none =>
    have hz0 := hV.nil rfl
    have e : bxs.set k ((⟨none, cap, junk⟩ : Vec).bx 28 (nS (sortQ l))) = bxs := by
      have h1 : bxs[k]? = some ((⟨none, cap, junk⟩ : Vec).bx 28 (nS l)) := by rw [← nth_eq]; exact hk
      exact set_same_get h1
    rw [e] at h
    refine wl_call1 (capt := []) hg hd ho hc hf ha (by kernel_rfl) (fun W _ => ?_) h
    exact sort0_gives W none 0
  | some g =>
    have hk' : bxs[k]? = some (rowQ g l junk) := by rw [← nth_eq]; exact hk
    refine wl_callN (X := Unit) (val := fun _ => .tuple #[]) (Φ := fun _ => True) (capt := []) k (B := rowQ g l junk) (L1 := []) (L2 := []) (b := g) (ob := .cells (nS l ++ junk).toArray 28 (0, 0)) (fun _ => rowQ g (sortQ l) junk) (g' := fun _ => g) (o' := fun _ => .cells (nS (sortQ l) ++ junk).toArray 28 (0, 0))
      hg hd ho hc hf ha (by kernel_rfl) hk rfl (fun _ _ => rfl) (fun W hp => ?_) (fun _ _ => h)
    have hcell := hp.own.cell k _ hk' (g, .cells (nS l ++ junk).toArray 28 (0, 0)) (List.mem_cons_self ..)
    exact sortFn_gives W g cap l junk hn hcell.1 (fun W' hK => ⟨hv0.below (hK.below hp.below hcell.2), ht0.below (hK.below hp.below hcell.2)⟩) hz
/-- slices.Compact of them. -/
theorem wl_compQ (k : Nat) {c : Call} {f : Operand} {d : Nat} {V : Vec} {l : List Rat} {len : Nat}
    (hg : guardE ops N env o = some true) (hd : o.dst = some d) (ho : o.op = .call c) (hc : c.callee = .value f) (hf : evO N env f = some (.func (.func 51) #[] #[])) (ha : evArgs (evO N env) c.args.toList = some [V.val len])
    (hk : nth bxs k = some (V.bx 28 (nS l))) (hlen : len = l.length) (hV : V.OK 1 len (nS l)) (hn : l.length ≤ 9223372036854775807)
    (h : ∀ V' : Vec, V'.OK 1 (compQ l).length (nS (compQ l)) → WL r n Tryz.prog N D ops Q rest ((d, V'.val (compQ l).length) :: env) (Hp W0 (bxs.set k (V'.bx 28 (nS (compQ l)))))) : WL r n Tryz.prog N D ops Q (o :: rest) env (Hp W0 bxs) := by
  subst hlen
  have hl := compQ_len l
  obtain ⟨p, cap, junk⟩ := V
  cases p with
  | none =>
    have hz0 := hV.nil rfl
    have hl0 : l = [] := List.length_eq_zero_iff.1 hz0
    subst hl0
    have h := h ⟨none, cap, junk⟩ ⟨by rw [compQ_nil]; rfl, fun _ => by rw [compQ_nil]; rfl, fun h => absurd rfl h⟩
    have e : bxs.set k ((⟨none, cap, junk⟩ : Vec).bx 28 (nS (compQ []))) = bxs := by
      have h1 : bxs[k]? = some ((⟨none, cap, junk⟩ : Vec).bx 28 (nS [])) := by rw [← nth_eq]; exact hk
      exact set_same_get h1
    rw [e] at h
    refine wl_call1 (capt := []) hg hd ho hc hf ha (by kernel_rfl) (fun W _ => ?_) h
    exact comp0_gives W none 0
  | some g =>
    obtain ⟨c1, c2, c3⟩ := hV.cap (by simp)
    have c1 : l.length ≤ cap := c1
    have c2 : cap ≤ maxLen := c2
    have hk' : bxs[k]? = some (rowQ g l junk) := by rw [← nth_eq]; exact hk
    have h := h ⟨some g, cap, compJ l junk⟩ ⟨by simp [nS], fun h => by simp at h, fun _ => ⟨by show (compQ l).length ≤ cap; omega, c2, by
      show (nS (compQ l)).length + (compJ l junk).length = cap * 1
      simp only [nS, compJ, cs, List.length_append, List.length_map, List.length_replicate] at c3 ⊢
      have c3 : l.length + junk.length = cap * 1 := c3
      omega⟩⟩
    refine wl_callN (X := Unit) (val := fun _ => .slice (some ⟨g, 0, none⟩) (compQ l).length cap) (Φ := fun _ => True) (capt := []) k (B := rowQ g l junk) (L1 := []) (L2 := []) (b := g) (ob := .cells (nS l ++ junk).toArray 28 (0, 0)) (fun _ => ⟨g, 28, nS (compQ l) ++ compJ l junk, true, none⟩) (g' := fun _ => g) (o' := fun _ => .cells (nS (compQ l) ++ compJ l junk).toArray 28 (0, 0))
      hg hd ho hc hf ha (by kernel_rfl) hk rfl (fun _ _ => rfl) (fun W hp => ?_) (fun _ _ => h)
    exact compN_gives (hp.own.cell k _ hk' (g, .cells (nS l ++ junk).toArray 28 (0, 0)) (List.mem_cons_self ..)).1 hn c1
end
end Go.Proofs.YteaiopkopifijaaGreatDoor
namespace Go.Proofs.YteaiopkopifijaaGreatDoor
open Go Go.RowKit Go.Am Go.Lib
set_option maxRecDepth 10000
-- BOXES 6
/-- The times that are kept among the first k. -/
def fl (f g : FrP) (k : Nat) : List Rat := ((meetL f g).take k).filter (frEq f g)
theorem fl_len (f g : FrP) (k : Nat) : (fl f g k).length ≤ 5 := by
  have h1 := List.length_filter_le (frEq f g) ((meetL f g).take k)
  have h2 := meetL_len f g
  rw [List.length_take] at h1
  unfold fl; omega
theorem fl_succ (f g : FrP) {k : Nat} (hk : k < (meetL f g).length) : fl f g (k + 1) = if frEq f g ((meetL f g).getD k 0) = true then fl f g k ++ [(meetL f g).getD k 0] else fl f g k := by
  have e : (meetL f g).getD k 0 = (meetL f g)[k] := by rw [List.getD_eq_getElem?_getD, List.getElem?_eq_getElem hk]; rfl
  rw [e, fl, List.take_add_one, List.getElem?_eq_getElem hk, List.filter_append]
  show _ ++ List.filter _ [_] = _
  rw [List.filter_cons, List.filter_nil]
  split
  · rfl
  · rw [List.append_nil]; rfl
theorem mem_fl {f g : FrP} {k : Nat} {t : Rat} (h : t ∈ fl f g k) : t ∈ meetL f g := List.mem_of_mem_take (List.mem_filter.1 h).1
set_option maxHeartbeats 8000000 in
theorem fEqual_gives (f g : FrP) (hf : f.OK) (hg : g.OK) (hax : f.ax = g.ax) (hz : MeetZ f g) (hs : ∀ p ∈ meetL f g, ∀ q ∈ meetL f g, Sz2 p q)
    (a b k : Nat) (ha : szQ f.sp a) (hb : szQ f.st b) (ha' : szQ g.sp a) (hb' : szQ g.st b) (hk : ∀ t ∈ meetL f g, szQ t k) (hk1 : a + b + k + 9 ≤ 300) (hk2 : k + 36 + 1 ≤ 300) (W : World) (hv : MaxP W) (ht : TabP W) :
    CallsR Tryz.prog 12 #[frV f, frV g] W (fun V : Vec => .tuple #[V.val (eqL f g).length, .int .i64 0]) (fun V => V.OK 1 (eqL f g).length (nS (eqL f g))) (fun V => [V.bx 28 (nS (eqL f g))]) := by
  refine calls_enter (args := [frV f, frV g]) Tryz.func12 rfl rfl rfl ?_
  refine zA ?_
  refine zB ?_
  (refine wl_box rfl rfl rfl rfl ?_; intro)
  (refine wl_box rfl rfl rfl rfl ?_; intro)
  iterate 2 refine wl_pure Tryz.hT rfl rfl rfl ?_
  refine wl_nil ?_
  rename_i b2 b3
  refine zE ?_
  iterate 2 refine zA ?_
  refine zB ?_
  refine wl_loadBx 0 Tryz.hT rfl rfl rfl rfl rfl rfl rfl rfl ?_
  refine wl_call1 rfl rfl rfl rfl rfl rfl (by kernel_rfl) (fun W hp => fcheck_gives f hf W (hv.hp hp) (ht.hp hp)) ?_
  iterate 2 refine wl_pure Tryz.hT rfl rfl rfl ?_
  refine wl_loadBx 1 Tryz.hT rfl rfl rfl rfl rfl rfl rfl rfl ?_
  refine wl_call1 rfl rfl rfl rfl rfl rfl (by kernel_rfl) (fun W hp => fcheck_gives g hg W (hv.hp hp) (ht.hp hp)) ?_
  iterate 2 refine wl_pure Tryz.hT rfl rfl rfl ?_
  refine wl_nil ?_
  refine zE ?_
  refine zS rfl ?_
  refine zI ?_
  refine zE ?_
  iterate 2 refine zA ?_
  refine zB ?_
  refine wl_pure Tryz.hT rfl rfl rfl ?_
  refine wl_loadBx 0 Tryz.hT rfl rfl rfl rfl rfl rfl rfl rfl ?_
  refine wl_pure Tryz.hT rfl rfl rfl ?_
  refine wl_loadBx 1 Tryz.hT rfl rfl rfl rfl rfl rfl rfl rfl ?_
  refine wl_eqB Tryz.underlying4 rfl rfl rfl rfl rfl rfl ?_
  refine wl_upd 24 (.bool false) rfl (congrArg Value.bool (by rw [hax]; simp)) ?_
  refine wl_nil ?_
  refine zE ?_
  refine zS rfl ?_
  refine zI ?_
  refine zE ?_
  refine zA ?_
  refine zB ?_
  (refine wl_allocZ Tryz.hZ rfl rfl rfl rfl ?_; intro)
  refine wl_nil ?_
  rename_i b6
  refine zE ?_
  iterate 2 refine zA ?_
  refine zB ?_
  refine wl_loadBx 0 Tryz.hT rfl rfl rfl rfl rfl rfl rfl rfl ?_
  refine wl_loadBx 1 Tryz.hT rfl rfl rfl rfl rfl rfl rfl rfl ?_
  refine wl_call (X := Nat × Nat) rfl rfl rfl rfl rfl rfl (by kernel_rfl) (fun W _ => meetings_gives f g W) ?_
  rintro ⟨c1, c2⟩ _
  refine wl_newGone ?_
  refine wl_nil ?_
  refine zE ?_
  refine zH ?_
  refine wc_rangeG (X := Nat × Vec) (fun x => [frB b2 f, frB b3 g, ⟨b6, 24, [x.2.val (fl f g x.1).length], true, none⟩, frB c1 f, frB c2 g, x.2.bx 28 (nS (fl f g x.1))])
    (fun j x => x.1 = j ∧ x.2.OK 1 (fl f g x.1).length (nS (fl f g x.1))) (fun _ _ => False) (0, Vec.empty) rfl (by kernel_rfl) (meet_iter f g hf hg hz c1 c2) (fun _ => rfl)
    ⟨rfl, Vec.OK.empty 1⟩ [] rfl (fun k x W _ hp => ⟨RowAt.of_bx hp 3 rfl rfl, RowAt.of_bx hp 4 rfl rfl, hv.hp hp, ht.hp hp⟩) ?_ ?_ (fun _ _ _ _ _ h => h.elim)
  · rintro j' ⟨j, V⟩ d L rec hj ⟨e1, hV⟩ hrec
    obtain rfl : j = j' := e1
    have hV : V.OK 1 (fl f g j).length (nS (fl f g j)) := hV
    have hn := fl_len f g (j + 1)
    have hfl := fl_succ f g hj
    have htm : (meetL f g).getD j 0 ∈ meetL f g := by rw [List.getD_eq_getElem?_getD, List.getElem?_eq_getElem hj]; exact List.getElem_mem hj
    obtain ⟨t, hte⟩ : ∃ t, t = (meetL f g).getD j 0 := ⟨_, rfl⟩
    have henc : encT (meetL f g) j = [str (numS t)] := by rw [hte]
    rw [← hte] at hfl htm
    rw [henc]
    have zt := hk t htm
    refine zB ?_
    refine wl_pure Tryz.hT rfl rfl rfl ?_
    refine wl_nil ?_
    refine ne_begin 7 hrec rfl ?_
    refine wc_block ?_
    refine zA ?_
    refine zB ?_
    refine wl_loadBx 0 Tryz.hT rfl rfl rfl rfl rfl rfl rfl rfl ?_
    refine wl_pure Tryz.hT rfl rfl rfl ?_
    refine wl_call1 rfl rfl rfl rfl rfl rfl (by kernel_rfl) (fun W hp => fvelocities_gives f hf t k zt hk2 W (hv.hp hp) (ht.hp hp)) ?_
    iterate 5 refine wl_pure Tryz.hT rfl rfl rfl ?_
    refine wl_nil ?_
    refine zE ?_
    refine zA ?_
    refine zB ?_
    refine wl_loadBx 1 Tryz.hT rfl rfl rfl rfl rfl rfl rfl rfl ?_
    refine wl_pure Tryz.hT rfl rfl rfl ?_
    refine wl_call1 rfl rfl rfl rfl rfl rfl (by kernel_rfl) (fun W hp => fvelocities_gives g hg t k zt hk2 W (hv.hp hp) (ht.hp hp)) ?_
    iterate 5 refine wl_pure Tryz.hT rfl rfl rfl ?_
    refine wl_nil ?_
    refine ne_then ?_
    refine wc_seq ?_
    refine wc_cutS (X := Unit) (fun _ => [(2, selfP b2), (3, selfP b3), (6, selfP b6), (7, str (numS t)), (57, .bool (frEq f g t))]) (fun _ => [frB b2 f, frB b3 g, ⟨b6, 24, [V.val (fl f g j).length], true, none⟩, frB c1 f, frB c2 g, V.bx 28 (nS (fl f g j)), rawD d, rawL L rec .busy none]) (fun _ => True) ?_ ?_
    · refine zT Tryz.mixed (by kernel_rfl) ?_
      refine wq_loadBx 0 Tryz.hT rfl rfl rfl rfl rfl rfl rfl rfl ?_
      refine wq_pure Tryz.hT rfl rfl rfl ?_
      refine wq_call1 rfl rfl rfl rfl rfl rfl (by kernel_rfl) (fun W hp => fpositionG_gives f hf t a b k ha hb zt hk1 W (hv.hp hp) (ht.hp hp)) ?_
      refine wq_loadBx 1 Tryz.hT rfl rfl rfl rfl rfl rfl rfl rfl ?_
      refine wq_pure Tryz.hT rfl rfl rfl ?_
      refine wq_call1 rfl rfl rfl rfl rfl rfl (by kernel_rfl) (fun W hp => fpositionG_gives g hg t a b k ha' hb' zt hk1 W (hv.hp hp) (ht.hp hp)) ?_
      refine wq_pure Tryz.hT rfl rfl rfl ?_
      by_cases h1 : f.at t = g.at t
      · refine wq_upd 47 (.bool true) rfl (congrArg Value.bool ((strEqB _ _).trans (decide_eq_true (numS_inj.2 h1)))) ?_
        iterate 4 refine wq_pure Tryz.hT rfl rfl rfl ?_
        by_cases h2 : f.velB t = g.velB t
        · refine wq_upd 51 (.bool false) rfl (congrArg Value.bool (by show (!_) = false; rw [strEqB, decide_eq_true (numS_inj.2 h2)]; rfl)) ?_
          iterate 4 refine wq_pure Tryz.hT rfl rfl rfl ?_
          by_cases h3 : f.velA t = g.velA t
          · have e : frEq f g t = false := by simp [frEq, h2, h3]
            refine wq_upd 55 (.bool false) rfl (congrArg Value.bool (by show (!_) = false; rw [strEqB, decide_eq_true (numS_inj.2 h3)]; rfl)) ?_
            iterate 2 refine wq_pure Tryz.hT rfl rfl rfl ?_
            refine wq_nil ?_
            refine wl_nil ?_
            exact ne_cut () trivial ⟨rfl, rfl, rfl, rfl, by rw [e]; rfl, trivial⟩ [] rfl
          · have e : frEq f g t = true := by simp [frEq, h1, h3]
            refine wq_upd 55 (.bool true) rfl (congrArg Value.bool (by show (!_) = true; rw [strEqB, decide_eq_false fun e => h3 (numS_inj.1 e)]; rfl)) ?_
            iterate 2 refine wq_pure Tryz.hT rfl rfl rfl ?_
            refine wq_nil ?_
            refine wl_nil ?_
            exact ne_cut () trivial ⟨rfl, rfl, rfl, rfl, by rw [e]; rfl, trivial⟩ [] rfl
        · have e : frEq f g t = true := by simp [frEq, h1, h2]
          refine wq_upd 51 (.bool true) rfl (congrArg Value.bool (by show (!_) = true; rw [strEqB, decide_eq_false fun e => h2 (numS_inj.1 e)]; rfl)) ?_
          refine wq_pure Tryz.hT rfl rfl rfl ?_
          iterate 3 refine wq_skip rfl rfl ?_
          iterate 2 refine wq_pure Tryz.hT rfl rfl rfl ?_
          refine wq_nil ?_
          refine wl_nil ?_
          exact ne_cut () trivial ⟨rfl, rfl, rfl, rfl, by rw [e]; rfl, trivial⟩ [] rfl
      · have e : frEq f g t = false := by simp [frEq, h1]
        refine wq_upd 47 (.bool false) rfl (congrArg Value.bool ((strEqB _ _).trans (decide_eq_false fun e => h1 (numS_inj.1 e)))) ?_
        refine wq_pure Tryz.hT rfl rfl rfl ?_
        iterate 8 refine wq_skip rfl rfl ?_
        refine wq_pure Tryz.hT rfl rfl rfl ?_
        refine wq_nil ?_
        refine wl_nil ?_
        exact ne_cut () trivial ⟨rfl, rfl, rfl, rfl, by rw [e]; rfl, trivial⟩ [] rfl
    · intro _ _
      refine wc_cond rfl (fun hc => ?_) (fun hc => ?_)
      · have hc : frEq f g t = true := hc
        rw [if_pos hc] at hfl
        refine zB ?_
        refine wl_loadBx 2 Tryz.hT rfl rfl rfl rfl rfl rfl rfl rfl ?_
        refine wl_pure Tryz.hT rfl rfl rfl ?_
        (refine wl_buildRowZ Tryz.hZ Tryz.hT rfl rfl rfl rfl rfl rfl rfl rfl rfl rfl rfl ?_; intro)
        refine wl_appendTo (V := V) (len := (fl f g j).length) (xs := nS (fl f g j)) 5 8 Tryz.vec24 (fl f g (j + 1)).length (nS (fl f g (j + 1))) rfl rfl rfl rfl rfl rfl rfl rfl rfl rfl rfl hV rfl rfl (by rw [hfl]; simp) (by rw [hfl]; simp [nS]; rfl) (by simp only [maxLen]; omega) (by omega) rfl ?_
        intro gV cV jV hV1
        refine wl_storeBx 2 Tryz.hT rfl rfl rfl rfl rfl rfl rfl rfl rfl rfl rfl ?_
        refine wl_nil ?_
        refine zN ?_
        exact ne_round 7 (j + 1, ⟨some gV, cV, jV⟩) hrec rfl ⟨rfl, hV1⟩ [_] rfl
      · have hc : frEq f g t = false := hc
        rw [if_neg (by rw [hc]; decide)] at hfl
        refine zI ?_
        refine zN ?_
        exact ne_round 7 (j + 1, V) hrec rfl ⟨rfl, by show V.OK 1 (fl f g (j + 1)).length (nS (fl f g (j + 1))); rw [hfl]; exact hV⟩ [] (by show _ = [frB b2 f, frB b3 g, (⟨b6, 24, [V.val (fl f g (j + 1)).length], true, none⟩ : Bx), frB c1 f, frB c2 g, V.bx 28 (nS (fl f g (j + 1))), rawD d, rawL L rec .ready none] ++ []; rw [hfl]; rfl)
  · rintro ⟨j, V⟩ d L rec ⟨e1, hV⟩
    obtain rfl : j = (meetL f g).length := e1
    have hV : V.OK 1 (fl f g (meetL f g).length).length (nS (fl f g (meetL f g).length)) := hV
    have hn := fl_len f g (meetL f g).length
    have hsl := sortQ_len (fl f g (meetL f g).length)
    have heq : eqL f g = compQ (sortQ (fl f g (meetL f g).length)) := by rw [eqL, fl, List.take_length]
    refine zN ?_
    refine zE ?_
    refine zA ?_
    refine zB ?_
    refine wl_loadBx 2 Tryz.hT rfl rfl rfl rfl rfl rfl rfl rfl ?_
    refine wl_sortQ 5 hv ht (V := V) (l := fl f g (meetL f g).length) (len := (fl f g (meetL f g).length).length) rfl rfl rfl rfl rfl rfl rfl rfl hV (by omega) (fun p hp q hq => hs p (mem_fl hp) q (mem_fl hq)) ?_
    refine wl_nil ?_
    refine zE ?_
    refine zA ?_
    refine zB ?_
    refine wl_loadBx 2 Tryz.hT rfl rfl rfl rfl rfl rfl rfl rfl ?_
    refine wl_compQ 5 (V := V) (l := sortQ (fl f g (meetL f g).length)) (len := (fl f g (meetL f g).length).length) rfl rfl rfl rfl rfl rfl rfl hsl.symm ⟨by rw [← hsl]; simp [nS], hV.nil, fun h => by
      have h2 := hV.cap h
      refine ⟨h2.1, h2.2.1, ?_⟩
      have h3 := h2.2.2
      rw [List.length_map] at h3 ⊢
      rw [hsl]
      exact h3⟩ (by omega) ?_
    intro V2 hV2
    rw [← heq] at hV2 ⊢
    iterate 2 refine wl_pure Tryz.hT rfl rfl rfl ?_
    refine wl_nil ?_
    refine zE ?_
    refine zO ?_
    refine ne_mark 6 rfl ?_
    exact ne_ret2 Tryz.hT rfl (.tmp rfl) (.tmp rfl) V2 rfl hV2 fun W hp => NewBx.of_hp1 hp 5 rfl
end Go.Proofs.YteaiopkopifijaaGreatDoor
namespace Go.Proofs.YteaiopkopifijaaGreatDoor
open Go Go.RowKit Go.Am Go.Lib
set_option maxRecDepth 10000
-- BOXES 4
section
variable {P : Program} {W0 : World} {N : Nat} {D : List Deferred} {ops : List Oper} {o : Oper} {rest : List Oper} {env : Env} {A A2 : World → Prop} {R : Act → World → Prop}
theorem wq_cvA {d : Nat} {t u : TypeId} {x : Operand} {k k' kt : IntKind} {z : Int} (ht : P.underlying t = some (.int kt)) (hu : P.underlying u = some (.int k)) (hg : guardE ops N env o = some true) (hd : o.dst = some d) (ho : o.op = .convert t u x) (hx : evO N env x = some (.int k' z))
    (h : WQ P N D ops A2 R rest ((d, .int k (k.wrap z)) :: env) A) : WQ P N D ops A2 R (o :: rest) env A :=
  wq_val hg hd (fun c e => by rw [ho] at e; cases e) (fun ρ W hρ _ => by
    simp [execOp, ho, convert, hρ _ _ hx, run_underlying ht, run_underlying hu, Conv.intToInt]) h
end
/-- A law's small front. -/
structure SmP where
  a : Bool
  b : Bool
  p : Nat
  n : Nat
  d : Nat
  s : Nat
abbrev smV (x : SmP) : Value := .agg #[.bool x.a, .bool x.b, .int .u8 (x.p : Nat), .int .u8 (x.n : Nat), .int .u8 (x.d : Nat), .int .u8 (x.s : Nat)]
structure SmP.OK (x : SmP) : Prop where
  p : x.p < 256
  n : x.n < 256
  d : x.d < 256
  s : x.s < 256
def SmP.of (x : SmP) : FrP := ⟨x.a, x.p, if x.b then -1 else 1, nrm ((x.n % 6 : Nat) : Int) ((x.d % 6 + 1 : Nat) : Int), ((x.s : Int) : Rat)⟩
theorem nrm_nonneg {z : Int} {d : Nat} (hz : 0 ≤ z) : 0 ≤ (nrm z (d + 1 : Nat)).num := by
  unfold nrm
  rw [if_neg (by omega), mkRat, dif_neg (by omega), Rat.normalize_eq]
  exact Int.ediv_nonneg hz (by omega)
theorem SmP.OK.fr {x : SmP} (h : x.OK) : x.of.OK := by
  have h1 := h.p
  have h2 := h.s
  refine ⟨by show (0 : Int) ≤ (x.p : Nat); omega, by show ((x.p : Nat) : Int) ≤ 65536; omega, ?_, ?_, ?_, ?_⟩
  · show (if x.b then (-1 : Int) else 1) = 1 ∨ (if x.b then (-1 : Int) else 1) = -1
    cases x.b
    · exact .inl rfl
    · exact .inr rfl
  · refine szQ.mono (k := 1) (nrm_num _ (by omega) ?_ ?_) (by decide)
    · rw [Int.natAbs_natCast]; show _ < 10; omega
    · rw [Int.natAbs_natCast]; show _ < 10; omega
  · refine szQ.mono (k := 3) (szQ_int ?_ (by decide)) (by decide)
    rw [Int.natAbs_natCast]; show _ < 1000; omega
  · exact nrm_nonneg (by omega)
set_option maxHeartbeats 8000000 in
theorem lof_gives (x : SmP) (h : x.OK) (W : World) (ht : TabP W) :
    CallsR Tryz.prog 13 #[smV x] W (fun _ : Unit => frV x.of) (fun _ => True) (fun _ => []) := by
  obtain ⟨h1, h2, h3, h4⟩ := h
  refine calls_enter (args := [smV x]) Tryz.func13 rfl rfl rfl ?_
  refine zA ?_
  refine zB ?_
  (refine wl_box rfl rfl rfl rfl ?_; intro)
  (refine wl_allocZ Tryz.hZ rfl rfl rfl rfl ?_; intro)
  refine wl_nil ?_
  rename_i b1 b2
  refine zE ?_
  refine wc_seq ?_
  refine wc_lateY (X := Nat) [true, true, true, true, true, true, true, true, true, true, true, true, true, true, true, true, true, true, true, true, false, false] (fun b => [(1, selfP b1), (2, selfP b2), (3, selfP b)]) (fun b => [⟨b1, 23, (smV x).cells.toList, true, none⟩, ⟨b2, 30, [.bool false, .int .i64 0, .int .i64 0, str [], str []], true, none⟩, ⟨b, 30, [.bool x.a, .int .i64 (x.p : Nat), .int .i64 1, str (numS x.of.sp), str (numS x.of.st)], true, none⟩])
      2 [⟨b1, 23, (smV x).cells.toList, true, none⟩, ⟨b2, 30, [.bool false, .int .i64 0, .int .i64 0, str [], str []], true, none⟩] Tryz.mixed (by kernel_rfl) ?_ ?_
  · refine wq_pure Tryz.hT rfl rfl rfl ?_
    refine wq_loadBx 0 Tryz.hT rfl rfl rfl rfl rfl rfl rfl rfl ?_
    refine wq_pure Tryz.hT rfl rfl rfl ?_
    refine wq_loadBx 0 Tryz.hT rfl rfl rfl rfl rfl rfl rfl rfl ?_
    refine wq_cvA Tryz.underlying5 Tryz.underlying3 rfl rfl rfl rfl ?_
    refine wq_upd 8 (.int .i64 (x.p : Nat)) rfl (congrArg (Value.int .i64) (w64_nat (by omega))) ?_
    refine wq_pure Tryz.hT rfl rfl rfl ?_
    refine wq_loadBx 0 Tryz.hT rfl rfl rfl rfl rfl rfl rfl rfl ?_
    refine wq_cvA Tryz.underlying5 Tryz.underlying3 rfl rfl rfl rfl ?_
    refine wq_upd 11 (.int .i64 (x.n : Nat)) rfl (congrArg (Value.int .i64) (w64_nat (by omega))) ?_
    refine wq_rem rfl rfl rfl rfl rfl (by decide) ?_
    refine wq_upd 12 (.int .i64 ((x.n % 6 : Nat) : Int)) rfl (congrArg (Value.int .i64) (by rw [Int.tmod_eq_emod_of_nonneg (by omega)]; omega)) ?_
    refine wq_pure Tryz.hT rfl rfl rfl ?_
    refine wq_loadBx 0 Tryz.hT rfl rfl rfl rfl rfl rfl rfl rfl ?_
    refine wq_cvA Tryz.underlying5 Tryz.underlying3 rfl rfl rfl rfl ?_
    refine wq_upd 15 (.int .i64 (x.d : Nat)) rfl (congrArg (Value.int .i64) (w64_nat (by omega))) ?_
    refine wq_rem rfl rfl rfl rfl rfl (by decide) ?_
    refine wq_upd 16 (.int .i64 ((x.d % 6 : Nat) : Int)) rfl (congrArg (Value.int .i64) (by rw [Int.tmod_eq_emod_of_nonneg (by omega)]; omega)) ?_
    refine wq_pure Tryz.hT rfl rfl rfl ?_
    refine wq_upd 17 (.int .i64 ((x.d % 6 + 1 : Nat) : Int)) rfl (congrArg (Value.int .i64) (w64_succ (by omega))) ?_
    refine wq_call1 rfl rfl rfl rfl rfl rfl (by kernel_rfl) (fun W hp => lnum_gives ((x.n % 6 : Nat) : Int) ((x.d % 6 + 1 : Nat) : Int) (by omega) (by omega) (by omega) W (ht.hp hp)) ?_
    refine wq_pure Tryz.hT rfl rfl rfl ?_
    refine wq_loadBx 0 Tryz.hT rfl rfl rfl rfl rfl rfl rfl rfl ?_
    refine wq_cvA Tryz.underlying5 Tryz.underlying3 rfl rfl rfl rfl ?_
    refine wq_upd 21 (.int .i64 (x.s : Nat)) rfl (congrArg (Value.int .i64) (w64_nat (by omega))) ?_
    refine wq_call1 rfl rfl rfl rfl rfl rfl (by kernel_rfl) (fun W hp => (lnum_gives (x.s : Nat) 1 (by decide) (by omega) (by decide) W (ht.hp hp)).cast (by rw [wholeQ])) ?_
    refine wq_buildZ Tryz.hZ Tryz.hT rfl rfl rfl rfl rfl rfl rfl rfl ?_
    refine wq_wt ?_
    refine wt_step rfl rfl (by ((repeat (first | refine Weak.same ?_ | refine Weak.off rfl ?_)); exact trivial)) ?_
    refine RS.cons ?_ (RS.nil)
    refine wl_allocZ Tryz.hZ rfl rfl rfl rfl ?_; intro b
    refine wl_nil ?_
    refine ne_wt ?_
    refine wt_step rfl rfl (by ((repeat (first | refine Weak.same ?_ | refine Weak.off rfl ?_)); exact trivial)) ?_
    refine RS.cons ?_ (RS.nil)
    refine wl_storeBx 2 Tryz.hT rfl rfl rfl rfl rfl rfl rfl rfl rfl rfl rfl ?_
    refine wl_nil ?_
    refine ne_wt ?_
    refine wt_done rfl (by ((repeat (first | refine Weak.same ?_ | refine Weak.off rfl ?_)); exact trivial)) ?_
    exact ne_late b ⟨rfl, rfl, rfl, trivial⟩ [0, 1, 2] (by decide) rfl
  · intro b3
    refine zE ?_
    iterate 2 refine zA ?_
    refine zB ?_
    refine wl_pure Tryz.hT rfl rfl rfl ?_
    refine wl_loadBx 0 Tryz.hT rfl rfl rfl rfl rfl rfl rfl rfl ?_
    refine wl_nil ?_
    refine zE ?_
    refine wc_cond rfl (fun hc => ?_) (fun hc => ?_)
    · refine zB ?_
      refine wl_pure Tryz.hT rfl rfl rfl ?_
      refine wl_storeBx 2 Tryz.hT rfl rfl rfl rfl rfl rfl rfl rfl rfl rfl rfl ?_
      refine wl_nil ?_
      refine zE ?_
      refine zA ?_
      refine zB ?_
      refine wl_loadBx 2 Tryz.hT rfl rfl rfl rfl rfl rfl rfl rfl ?_
      refine wl_storeBx 1 Tryz.hT rfl rfl rfl rfl rfl rfl rfl rfl rfl rfl rfl ?_
      refine wl_nil ?_
      refine zE ?_
      refine zO ?_
      exact ne_ret1 Tryz.hT rfl (.cell 1 rfl rfl rfl rfl rfl) () (by show _ = frV ⟨x.a, x.p, if x.b then -1 else 1, _, _⟩; rw [hc]; rfl) trivial fun W _ => NewBx.nil _ _
    · refine zI ?_
      refine zE ?_
      refine zA ?_
      refine zB ?_
      refine wl_loadBx 2 Tryz.hT rfl rfl rfl rfl rfl rfl rfl rfl ?_
      refine wl_storeBx 1 Tryz.hT rfl rfl rfl rfl rfl rfl rfl rfl rfl rfl rfl ?_
      refine wl_nil ?_
      refine zE ?_
      refine zO ?_
      exact ne_ret1 Tryz.hT rfl (.cell 1 rfl rfl rfl rfl rfl) () (by show _ = frV ⟨x.a, x.p, if x.b then -1 else 1, _, _⟩; rw [hc]; rfl) trivial fun W _ => NewBx.nil _ _
end Go.Proofs.YteaiopkopifijaaGreatDoor
namespace Go.Proofs.YteaiopkopifijaaGreatDoor
open Go Go.RowKit Go.Am Go.Lib
set_option maxRecDepth 10000
-- BOXES 4
/-- A front whose numbers are small. -/
structure FrP.Sm (f : FrP) : Prop where
  ok : f.OK
  sp : szQ f.sp 1
  st : szQ f.st 3
theorem FrP.Sm.vz {f : FrP} (h : f.Sm) : szQ f.vel 2 := h.ok.hdz.mul h.sp
theorem num_ne {q : Rat} (h : q ≠ 0) : q.num ≠ 0 := by rwa [ne_eq, Rat.num_eq_zero]
theorem meetZ_small {f g : FrP} (hf : f.Sm) (hg : g.Sm) : MeetZ f g ∧ ∀ t ∈ meetL f g, szQ t 28 := by
  have zg : szQ (gapQ f g) 11 := hg.ok.posz.sub hf.ok.posz
  have zm1 := hf.vz.mul hf.st
  have zm2 := hg.vz.mul hg.st
  have zs := zm1.sub zm2
  have za := zg.add zs
  have zw := hf.vz.sub hg.vz
  have w0 : f.vel ≠ g.vel → (f.vel - g.vel).num ≠ 0 := fun h => num_ne (by grind)
  refine ⟨⟨fun _ => sz2 zg hf.vz (by decide), fun h => sz2 hf.st (zg.div hf.vz (num_ne h)) (by decide), fun _ => sz2 zg hg.vz (by decide), fun h => sz2 hg.st (zg.div hg.vz (num_ne h)) (by decide),
    sz2 hf.vz hf.st (by decide), sz2 hg.vz hg.st (by decide), sz2 zm1 zm2 (by decide), sz2 zg zs (by decide), sz2 hf.vz hg.vz (by decide), fun _ => sz2 za zw (by decide)⟩, fun t ht => ?_⟩
  rcases mem_meetL.1 ht with h | h | ⟨h0, h⟩ | ⟨h0, h⟩ | ⟨h0, h⟩ <;> rw [h]
  · exact hf.st.mono (by decide)
  · exact hg.st.mono (by decide)
  · exact (hf.st.add (zg.div hf.vz (num_ne h0))).mono (by decide)
  · exact (hg.st.sub (zg.div hg.vz (num_ne h0))).mono (by decide)
  · exact (za.div zw (w0 h0)).mono (by decide)
theorem fEqualS_gives (f g : FrP) (hf : f.Sm) (hg : g.Sm) (hax : f.ax = g.ax) (W : World) (hv : MaxP W) (ht : TabP W) :
    CallsR Tryz.prog 12 #[frV f, frV g] W (fun V : Vec => .tuple #[V.val (eqL f g).length, .int .i64 0]) (fun V => V.OK 1 (eqL f g).length (nS (eqL f g))) (fun V => [V.bx 28 (nS (eqL f g))]) := by
  obtain ⟨hz, hm⟩ := meetZ_small hf hg
  exact fEqual_gives f g hf.ok hg.ok hax hz (fun p hp q hq => sz2 (hm p hp) (hm q hq) (by decide)) 1 3 28 hf.sp hf.st hg.sp hg.st hm (by decide) (by decide) W hv ht
end Go.Proofs.YteaiopkopifijaaGreatDoor
namespace Go.Proofs.YteaiopkopifijaaGreatDoor
open Go Go.RowKit Go.Am Go.Lib
set_option maxRecDepth 10000
-- BOXES 4
abbrev q2 (n : Int) (d : Nat) (h : d ≠ 0 := by decide) (hc : n.natAbs.Coprime d := by decide) : Rat := ⟨n, d, h, hc⟩
def awF : FrP := ⟨false, 10, -1, q2 2 1, q2 3 1⟩
def awG : FrP := ⟨false, 0, 1, q2 1 2, q2 0 1⟩
theorem dd1 (n : Nat) (h : n < 10) : decDigits n = [UInt8.ofNat (48 + n)] := by rw [decDigits, dif_pos h]
theorem dd2 (n : Nat) (h : ¬ n < 10) (h2 : n / 10 < 10) : decDigits n = [UInt8.ofNat (48 + n / 10), UInt8.ofNat (48 + n % 10)] := by
  rw [decDigits, dif_neg h, dd1 _ h2]; rfl
theorem it_pos (n : Nat) : itoa (n : Int) = decDigits n := by
  unfold itoa; rw [if_neg (by omega)]; rfl
theorem ns0 : numS (q2 0 1) = [48] := by rw [numS, parS, if_pos rfl]; exact (it_pos 0).trans (dd1 0 (by decide))
theorem ns1 : numS (q2 1 1) = [49] := by rw [numS, parS, if_pos rfl]; exact (it_pos 1).trans (dd1 1 (by decide))
theorem ns2 : numS (q2 2 1) = [50] := by rw [numS, parS, if_pos rfl]; exact (it_pos 2).trans (dd1 2 (by decide))
theorem ns3 : numS (q2 3 1) = [51] := by rw [numS, parS, if_pos rfl]; exact (it_pos 3).trans (dd1 3 (by decide))
theorem ns5 : numS (q2 5 1) = [53] := by rw [numS, parS, if_pos rfl]; exact (it_pos 5).trans (dd1 5 (by decide))
theorem ns6 : numS (q2 6 1) = [54] := by rw [numS, parS, if_pos rfl]; exact (it_pos 6).trans (dd1 6 (by decide))
theorem ns8 : numS (q2 8 1) = [56] := by rw [numS, parS, if_pos rfl]; exact (it_pos 8).trans (dd1 8 (by decide))
theorem ns10 : numS (q2 10 1) = [49, 48] := by rw [numS, parS, if_pos rfl]; exact (it_pos 10).trans (dd2 10 (by decide) (by decide))
theorem ns12 : numS (q2 1 2) = [49, 47, 50] := by
  rw [numS, parS, if_neg (by decide), show itoa (q2 1 2).num = [49] from (it_pos 1).trans (dd1 1 (by decide)), show decDigits (q2 1 2).den = [50] from dd1 2 (by decide)]; rfl
theorem nsm12 : numS (q2 (-1) 2) = [45, 49, 47, 50] := by
  rw [numS, parS, if_neg (by decide), show itoa (q2 (-1) 2).num = [45, 49] from (itoa_neg (m := 1) (by decide)).trans (by rw [dd1 1 (by decide)]; rfl), show decDigits (q2 (-1) 2).den = [50] from dd1 2 (by decide)]; rfl
theorem ns325 : numS (q2 32 5) = [51, 50, 47, 53] := by
  rw [numS, parS, if_neg (by decide), show itoa (q2 32 5).num = [51, 50] from (it_pos 32).trans (dd2 32 (by decide) (by decide)), show decDigits (q2 32 5).den = [53] from dd1 5 (by decide)]; rfl
theorem awF_sm : awF.Sm := by
  have h1 : szQ awF.sp 1 := ⟨by decide, by decide⟩
  have h2 : szQ awF.st 3 := ⟨by decide, by decide⟩
  exact ⟨⟨by decide, by decide, .inr rfl, h1.mono (by decide), h2.mono (by decide), by decide⟩, h1, h2⟩
theorem awG_sm : awG.Sm := by
  have h1 : szQ awG.sp 1 := ⟨by decide, by decide⟩
  have h2 : szQ awG.st 3 := ⟨by decide, by decide⟩
  exact ⟨⟨by decide, by decide, .inl rfl, h1.mono (by decide), h2.mono (by decide), by decide⟩, h1, h2⟩
theorem awF_v : frV awF = .agg #[.bool false, .int .i64 10, .int .i64 (-1), str [50], str [51]] := by
  show Value.agg #[.bool false, .int .i64 10, .int .i64 (-1), str (numS (q2 2 1)), str (numS (q2 3 1))] = _
  rw [ns2, ns3]
theorem awG_v : frV awG = .agg #[.bool false, .int .i64 0, .int .i64 1, str [49, 47, 50], str [48]] := by
  show Value.agg #[.bool false, .int .i64 0, .int .i64 1, str (numS (q2 1 2)), str (numS (q2 0 1))] = _
  rw [ns12, ns0]
theorem aw_p1 (W : World) (hv : MaxP W) (ht : TabP W) : CallsR Tryz.prog 18 #[.agg #[.bool false, .int .i64 10, .int .i64 (-1), str [50], str [51]], str [49]] W (fun _ : Unit => .tuple #[str [49, 48], .int .i64 0]) (fun _ => True) (fun _ => []) := by
  have h := fPos_gives awF awF_sm.ok (q2 1 1) ⟨by decide, by decide⟩ W hv ht
  rw [awF_v, ns1, show awF.at (q2 1 1) = q2 10 1 by decide +kernel, ns10] at h
  exact h
theorem aw_p5 (W : World) (hv : MaxP W) (ht : TabP W) : CallsR Tryz.prog 18 #[.agg #[.bool false, .int .i64 10, .int .i64 (-1), str [50], str [51]], str [53]] W (fun _ : Unit => .tuple #[str [54], .int .i64 0]) (fun _ => True) (fun _ => []) := by
  have h := fPos_gives awF awF_sm.ok (q2 5 1) ⟨by decide, by decide⟩ W hv ht
  rw [awF_v, ns5, show awF.at (q2 5 1) = q2 6 1 by decide +kernel, ns6] at h
  exact h
theorem aw_pl (W : World) (hv : MaxP W) (ht : TabP W) : CallsR Tryz.prog 32 #[.agg #[.bool false, .int .i64 10, .int .i64 (-1), str [50], str [51]]] W (fun _ : Unit => .tuple #[.agg #[str [48], str [45, 49, 47, 50], str [56]], .int .i64 0]) (fun _ => True) (fun _ => []) := by
  have h := fPlane_gives awF awF_sm.ok W hv ht
  have e : awF.plane = .tuple #[.agg #[str [48], str [45, 49, 47, 50], str [56]], .int .i64 0] := by
    rw [FrP.plane, if_neg (by decide), show awF.ax = false from rfl, show awF.slope = q2 (-1) 2 by decide +kernel, show awF.base = q2 8 1 by decide +kernel, nsm12, ns8]; rfl
  rw [awF_v, e] at h
  exact h
theorem aw_eqL : eqL awF awG = [q2 32 5] := by
  have h : (meetL awF awG).filter (frEq awF awG) = [q2 32 5] := by decide +kernel
  rw [eqL, h]
  show compQ [q2 32 5] = _
  rw [compQ]
theorem aw_eq (W : World) (hv : MaxP W) (ht : TabP W) : CallsR Tryz.prog 12 #[.agg #[.bool false, .int .i64 10, .int .i64 (-1), str [50], str [51]], .agg #[.bool false, .int .i64 0, .int .i64 1, str [49, 47, 50], str [48]]] W
    (fun V : Vec => .tuple #[V.val 1, .int .i64 0]) (fun V => V.OK 1 1 (nS [q2 32 5])) (fun V => [V.bx 28 (nS [q2 32 5])]) := by
  have h := fEqualS_gives awF awG awF_sm awG_sm rfl W hv ht
  rw [awF_v, awG_v, aw_eqL] at h
  exact h
theorem aw_se (W : World) (g b cap : Nat) (h1 : RowAt W g 0 (nS [q2 32 5])) (h2 : RowAt W b 0 [str [51, 50, 47, 53]]) :
    CallsR Tryz.prog 14 #[.slice (some ⟨g, 0, none⟩) 1 cap, .slice (some ⟨b, 0, none⟩) 1 1] W (fun _ : Unit => .bool true) (fun _ => True) (fun _ => []) := by
  have h := sEqual_gives W (some ⟨g, 0, none⟩) (some ⟨b, 0, none⟩) cap 1 [numS (q2 32 5)] [[51, 50, 47, 53]] (.inr ⟨g, 0, rfl, h1⟩) (.inr ⟨b, 0, rfl, h2⟩) (by decide) (by decide)
  rw [ns325, decide_eq_true rfl] at h
  exact h
theorem strEqL (a b : List UInt8) (h : a = b) : (((⟨a.toArray⟩ : ByteArray).toList == (⟨b.toArray⟩ : ByteArray).toList)) = true := (strEqB a b).trans (decide_eq_true h)
theorem plane_eq (W : World) (a b c a' b' c' : List UInt8) : (binOp .eql 57 (.agg #[str a, str b, str c]) (.agg #[str a', str b', str c'])).run Tryz.prog W = .ok (.bool (decide (a = a' ∧ b = b' ∧ c = c'))) W := by
  rw [run_eql_struct, run_equalIn_agg W 9999 57 _ _ (by kernel_rfl) (by kernel_rfl)]
  have hf : ∃ f1 f2 f3 : Field, (Tryz.prog.fieldsOf 57).toList = [f1, f2, f3] ∧ (f1.name ≠ "_" ∧ f1.type = 28 ∧ f1.offset = 0) ∧ (f2.name ≠ "_" ∧ f2.type = 28 ∧ f2.offset = 1) ∧ (f3.name ≠ "_" ∧ f3.type = 28 ∧ f3.offset = 2) := by
    unfold Program.fieldsOf; rw [Tryz.underlying57]
    exact ⟨_, _, _, rfl, ⟨by decide, rfl, rfl⟩, ⟨by decide, rfl, rfl⟩, ⟨by decide, rfl, rfl⟩⟩
  obtain ⟨f1, f2, f3, hf, ⟨n1, t1, o1⟩, ⟨n2, t2, o2⟩, ⟨n3, t3, o3⟩⟩ := hf
  rw [hf]
  have e : ∀ (x y : List UInt8) W, (Op.equalIn 9999 28 (str x) (str y)).run Tryz.prog W = .ok (decide (x = y)) W := fun x y W => by
    rw [run_equalIn_string W 9998 28 _ _ Tryz.underlying28, strEqB]
  by_cases h1 : a = a' <;> by_cases h2 : b = b' <;> by_cases h3 : c = c' <;> simp [Op.eqFields, part, Tryz.isAgg28, e, h1, h2, h3, n1, n2, n3, t1, t2, t3, o1, o2, o3]
section
variable {r : Option Nat} {n : Nat} {N : Nat} {D : List Deferred} {ops : List Oper} {Q : Exit → Act → World → Prop} {o : Oper} {rest : List Oper} {env : Env} {A : World → Prop}
theorem wl_eqPl (a b c a' b' c' : List UInt8) {d : Nat} {u : TypeId} {x y : Operand} (hg : guardE ops N env o = some true) (hd : o.dst = some d) (ho : o.op = .binOp .eql 57 x y u)
    (hx : evO N env x = some (.agg #[str a, str b, str c])) (hy : evO N env y = some (.agg #[str a', str b', str c']))
    (h : WL r n Tryz.prog N D ops Q rest ((d, .bool (decide (a = a' ∧ b = b' ∧ c = c'))) :: env) A) : WL r n Tryz.prog N D ops Q (o :: rest) env A :=
  wl_val hg hd (fun c e => by rw [ho] at e; cases e) (fun _ W hρ _ => by
    have hm : Tryz.prog.eqGuardType Tryz.prog.depth 57 = false := by kernel_rfl
    simp [execOp, ho, hρ _ _ hx, hρ _ _ hy, run_eqGuard_agg W .eql 57 x y _ _ hm, plane_eq]) h
end
set_option maxHeartbeats 8000000 in
theorem awakeF_gives (W : World) (hv : MaxP W) (ht : TabP W) : CallsR Tryz.prog 15 #[] W (fun _ : Unit => .bool true) (fun _ => True) (fun _ => []) := by
  refine calls_enter (args := []) Tryz.func15 rfl rfl rfl ?_
  refine zA ?_
  refine zB ?_
  refine wl_pure Tryz.hT rfl rfl rfl ?_
  refine wl_nil ?_
  refine zE ?_
  refine zA ?_
  refine zB ?_
  refine wl_buildZ Tryz.hZ Tryz.hT rfl rfl rfl rfl rfl rfl rfl rfl ?_
  (refine wl_allocZ Tryz.hZ rfl rfl rfl rfl ?_; intro)
  refine wl_storeBx 0 Tryz.hT rfl rfl rfl rfl rfl rfl rfl rfl rfl rfl rfl ?_
  refine wl_nil ?_
  rename_i b1
  refine zE ?_
  refine zA ?_
  refine zB ?_
  refine wl_loadBx 0 Tryz.hT rfl rfl rfl rfl rfl rfl rfl rfl ?_
  refine wl_call1 rfl rfl rfl rfl rfl rfl (by kernel_rfl) (fun W hp => aw_p1 W (hv.hp hp) (ht.hp hp)) ?_
  iterate 5 refine wl_pure Tryz.hT rfl rfl rfl ?_
  refine wl_nil ?_
  refine zE ?_
  refine zA ?_
  refine zB ?_
  refine wl_loadBx 0 Tryz.hT rfl rfl rfl rfl rfl rfl rfl rfl ?_
  refine wl_call1 rfl rfl rfl rfl rfl rfl (by kernel_rfl) (fun W hp => aw_p5 W (hv.hp hp) (ht.hp hp)) ?_
  iterate 5 refine wl_pure Tryz.hT rfl rfl rfl ?_
  refine wl_nil ?_
  refine zE ?_
  refine zA ?_
  refine zB ?_
  refine wl_loadBx 0 Tryz.hT rfl rfl rfl rfl rfl rfl rfl rfl ?_
  refine wl_call1 rfl rfl rfl rfl rfl rfl (by kernel_rfl) (fun W hp => aw_pl W (hv.hp hp) (ht.hp hp)) ?_
  iterate 3 refine wl_pure Tryz.hT rfl rfl rfl ?_
  (refine wl_allocZ Tryz.hZ rfl rfl rfl rfl ?_; intro)
  refine wl_storeBx 1 Tryz.hT rfl rfl rfl rfl rfl rfl rfl rfl rfl rfl rfl ?_
  refine wl_pure Tryz.hT rfl rfl rfl ?_
  refine wl_nil ?_
  rename_i b6
  refine zE ?_
  refine zA ?_
  refine zB ?_
  refine wl_loadBx 0 Tryz.hT rfl rfl rfl rfl rfl rfl rfl rfl ?_
  refine wl_buildZ Tryz.hZ Tryz.hT rfl rfl rfl rfl rfl rfl rfl rfl ?_
  refine wl_call (X := Vec) rfl rfl rfl rfl rfl rfl (by kernel_rfl) (fun W hp => aw_eq W (hv.hp hp) (ht.hp hp)) ?_
  intro V hV
  iterate 5 refine wl_pure Tryz.hT rfl rfl rfl ?_
  refine wl_nil ?_
  refine zE ?_
  refine zA ?_
  refine zB ?_
  iterate 9 refine wl_pure Tryz.hT rfl rfl rfl ?_
  refine wl_upd 40 (.bool true) rfl (congrArg Value.bool (strEqL _ _ rfl)) ?_
  iterate 4 refine wl_pure Tryz.hT rfl rfl rfl ?_
  refine wl_upd 44 (.bool true) rfl (congrArg Value.bool (strEqL _ _ rfl)) ?_
  iterate 2 refine wl_pure Tryz.hT rfl rfl rfl ?_
  refine wl_loadBx 1 Tryz.hT rfl rfl rfl rfl rfl rfl rfl rfl ?_
  refine wl_buildZ Tryz.hZ Tryz.hT rfl rfl rfl rfl rfl rfl rfl rfl ?_
  refine wl_eqPl [48] [45, 49, 47, 50] [56] [48] [45, 49, 47, 50] [56] rfl rfl rfl rfl rfl ?_
  refine wl_upd 49 (.bool true) rfl (congrArg Value.bool (decide_eq_true ⟨rfl, rfl, rfl⟩)) ?_
  iterate 3 refine wl_pure Tryz.hT rfl rfl rfl ?_
  (refine wl_buildRowZ Tryz.hZ Tryz.hT rfl rfl rfl rfl rfl rfl rfl rfl rfl rfl rfl ?_; intro)
  rename_i b7
  obtain ⟨p, cap, junk⟩ := V
  cases p with
  | none => exact absurd (hV.nil rfl) (by decide)
  | some g =>
    refine wl_upd 52 (.slice (some ⟨g, 0, none⟩) 1 cap) rfl rfl ?_
    refine wl_call1 rfl rfl rfl rfl rfl rfl (by kernel_rfl) (fun W hp => aw_se W g b7 cap (row_pt hp 2 (A := []) (C := junk) rfl rfl rfl) (RowAt.of_bx hp 3 rfl rfl)) ?_
    iterate 2 refine wl_pure Tryz.hT rfl rfl rfl ?_
    refine wl_nil ?_
    refine zE ?_
    refine zO ?_
    exact ne_ret1 Tryz.hT rfl (.tmp rfl) () rfl trivial fun W _ => NewBx.nil _ _
end Go.Proofs.YteaiopkopifijaaGreatDoor
namespace Go.Proofs.YteaiopkopifijaaGreatDoor
open Go Go.RowKit Go.Am Go.Lib
set_option maxRecDepth 10000
-- BOXES 4
theorem qtr_eq (z : Int) : nrm z 4 = (z : Rat) / 4 := by rw [nrm_div z (by decide), Rat.divInt_eq_div]; rfl
theorem qtr_le {a b : Int} (h : a ≤ b) : nrm a 4 ≤ nrm b 4 := by
  rw [qtr_eq, qtr_eq]
  have h : ((a : Int) : Rat) ≤ ((b : Int) : Rat) := Rat.intCast_le_intCast.2 h
  grind
theorem qtr_sz {z : Int} {k : Nat} (h : z.natAbs < 10 ^ k) (hk : 1 ≤ k) : szQ (nrm z 4) k := nrm_num z (by decide) h (Nat.lt_of_lt_of_le (show (4 : Int).natAbs < 10 ^ 1 by decide) (Nat.pow_le_pow_right (by decide) hk))
theorem at_sz {f : FrP} (h : f.Sm) {t : Rat} {k : Nat} (hz : szQ t k) : szQ (f.at t) (k + 12) := by
  unfold FrP.at
  split
  · exact h.ok.posz.mono (by omega)
  · exact (h.ok.posz.add (h.vz.mul (hz.sub h.st))).mono (by omega)
theorem SmP.OK.sm {x : SmP} (h : x.OK) : x.of.Sm := by
  have h1 := h.s
  refine ⟨h.fr, nrm_num _ (by omega) ?_ ?_, szQ_int ?_ (by decide)⟩
  · rw [Int.natAbs_natCast]; show _ < 10; omega
  · rw [Int.natAbs_natCast]; show _ < 10; omega
  · rw [Int.natAbs_natCast]; show _ < 1000; omega
end Go.Proofs.YteaiopkopifijaaGreatDoor
namespace Go.Proofs.YteaiopkopifijaaGreatDoor
open Go Go.RowKit Go.Am Go.Lib
set_option maxRecDepth 10000
-- BOXES 6
abbrev smB (b : Nat) (x : SmP) : Bx := ⟨b, 23, (smV x).cells.toList, true, none⟩
/-- A row that Equal gives. -/
abbrev EqV (f g : FrP) : Type := { V : Vec // V.OK 1 (eqL f g).length (nS (eqL f g)) }
abbrev EqV.bx {f g : FrP} (V : EqV f g) : Bx := V.1.bx 28 (nS (eqL f g))
abbrev EqV.val {f g : FrP} (V : EqV f g) : Value := V.1.val (eqL f g).length
end Go.Proofs.YteaiopkopifijaaGreatDoor
namespace Go.Proofs.YteaiopkopifijaaGreatDoor
open Go Go.RowKit Go.Am Go.Lib
set_option maxRecDepth 10000
-- BOXES 4
set_option maxHeartbeats 4000000 in
theorem btw_gives (c1 c2 : Nat) (a b t : Rat) (z1 : Sz2 a t) (z2 : Sz2 t b) (W : World) (h1 : RowAt W c1 0 [str (numS a)]) (h2 : RowAt W c2 0 [str (numS b)]) (hv : MaxP W) (ht : TabP W) :
    CallsR Tryz.prog 24 #[str (numS t), selfP c1, selfP c2] W (fun _ : Unit => .bool (decide (a ≤ t ∧ t ≤ b))) (fun _ => True) (fun _ => []) := by
  refine calls_enter (args := [str (numS t), selfP c1, selfP c2]) Tryz.func24 rfl rfl rfl ?_
  repeat (first | refine zA ?_ | refine zB ?_ | refine zC ?_ | refine zD ?_ | refine zE ?_ | refine zF ?_ | refine zG ?_ | refine zH ?_ | refine zI ?_ | refine zJ ?_ | refine zK ?_ | refine zL ?_ | refine zM rfl ?_ | refine zN ?_ | refine zO ?_ | refine zP ?_ | refine zQ ?_ | refine zR rfl ?_ | refine zS rfl ?_ | refine zT Tryz.mixed (by kernel_rfl) ?_)
  refine wl_pure Tryz.hT rfl rfl rfl ?_
  refine wl_nil ?_
  repeat (first | refine zA ?_ | refine zB ?_ | refine zC ?_ | refine zD ?_ | refine zE ?_ | refine zF ?_ | refine zG ?_ | refine zH ?_ | refine zI ?_ | refine zJ ?_ | refine zK ?_ | refine zL ?_ | refine zM rfl ?_ | refine zN ?_ | refine zO ?_ | refine zP ?_ | refine zQ ?_ | refine zR rfl ?_ | refine zS rfl ?_ | refine zT Tryz.mixed (by kernel_rfl) ?_)
  (first | refine wl_load rfl rfl rfl rfl (fun W hp => RowAt.load 0 Tryz.hT rfl ((fun W hp => h1.hp hp) W hp) rfl) ?_ | refine wl_load rfl rfl rfl rfl (fun W hp => RowAt.load 1 Tryz.hT rfl ((fun W hp => h1.hp hp) W hp) rfl) ?_ | refine wl_load rfl rfl rfl rfl (fun W hp => RowAt.load 2 Tryz.hT rfl ((fun W hp => h1.hp hp) W hp) rfl) ?_ | refine wl_load rfl rfl rfl rfl (fun W hp => RowAt.load 3 Tryz.hT rfl ((fun W hp => h1.hp hp) W hp) rfl) ?_ | refine wl_load rfl rfl rfl rfl (fun W hp => RowAt.load 4 Tryz.hT rfl ((fun W hp => h1.hp hp) W hp) rfl) ?_ | refine wl_load rfl rfl rfl rfl (fun W hp => RowAt.load 5 Tryz.hT rfl ((fun W hp => h1.hp hp) W hp) rfl) ?_ | refine wl_load rfl rfl rfl rfl (fun W hp => RowAt.load 6 Tryz.hT rfl ((fun W hp => h1.hp hp) W hp) rfl) ?_ | refine wl_load rfl rfl rfl rfl (fun W hp => RowAt.load 7 Tryz.hT rfl ((fun W hp => h1.hp hp) W hp) rfl) ?_ | refine wq_load rfl rfl rfl rfl (fun W hp => RowAt.load 0 Tryz.hT rfl ((fun W hp => h1.hp hp) W hp) rfl) ?_ | refine wq_load rfl rfl rfl rfl (fun W hp => RowAt.load 1 Tryz.hT rfl ((fun W hp => h1.hp hp) W hp) rfl) ?_ | refine wq_load rfl rfl rfl rfl (fun W hp => RowAt.load 2 Tryz.hT rfl ((fun W hp => h1.hp hp) W hp) rfl) ?_ | refine wq_load rfl rfl rfl rfl (fun W hp => RowAt.load 3 Tryz.hT rfl ((fun W hp => h1.hp hp) W hp) rfl) ?_ | refine wq_load rfl rfl rfl rfl (fun W hp => RowAt.load 4 Tryz.hT rfl ((fun W hp => h1.hp hp) W hp) rfl) ?_ | refine wq_load rfl rfl rfl rfl (fun W hp => RowAt.load 5 Tryz.hT rfl ((fun W hp => h1.hp hp) W hp) rfl) ?_ | refine wq_load rfl rfl rfl rfl (fun W hp => RowAt.load 6 Tryz.hT rfl ((fun W hp => h1.hp hp) W hp) rfl) ?_ | refine wq_load rfl rfl rfl rfl (fun W hp => RowAt.load 7 Tryz.hT rfl ((fun W hp => h1.hp hp) W hp) rfl) ?_)
  refine wl_pure Tryz.hT rfl rfl rfl ?_
  refine wl_call1 rfl rfl rfl rfl rfl rfl (by kernel_rfl) (fun W hp => (rcompare_gives a t z1 W (hv.hp hp) (ht.hp hp)).cast (by rw [cmpZ_Q])) ?_
  iterate 5 refine wl_pure Tryz.hT rfl rfl rfl ?_
  refine wl_nil ?_
  repeat (first | refine zA ?_ | refine zB ?_ | refine zC ?_ | refine zD ?_ | refine zE ?_ | refine zF ?_ | refine zG ?_ | refine zH ?_ | refine zI ?_ | refine zJ ?_ | refine zK ?_ | refine zL ?_ | refine zM rfl ?_ | refine zN ?_ | refine zO ?_ | refine zP ?_ | refine zQ ?_ | refine zR rfl ?_ | refine zS rfl ?_ | refine zT Tryz.mixed (by kernel_rfl) ?_)
  refine wl_pure Tryz.hT rfl rfl rfl ?_
  (first | refine wl_load rfl rfl rfl rfl (fun W hp => RowAt.load 0 Tryz.hT rfl ((fun W hp => h2.hp hp) W hp) rfl) ?_ | refine wl_load rfl rfl rfl rfl (fun W hp => RowAt.load 1 Tryz.hT rfl ((fun W hp => h2.hp hp) W hp) rfl) ?_ | refine wl_load rfl rfl rfl rfl (fun W hp => RowAt.load 2 Tryz.hT rfl ((fun W hp => h2.hp hp) W hp) rfl) ?_ | refine wl_load rfl rfl rfl rfl (fun W hp => RowAt.load 3 Tryz.hT rfl ((fun W hp => h2.hp hp) W hp) rfl) ?_ | refine wl_load rfl rfl rfl rfl (fun W hp => RowAt.load 4 Tryz.hT rfl ((fun W hp => h2.hp hp) W hp) rfl) ?_ | refine wl_load rfl rfl rfl rfl (fun W hp => RowAt.load 5 Tryz.hT rfl ((fun W hp => h2.hp hp) W hp) rfl) ?_ | refine wl_load rfl rfl rfl rfl (fun W hp => RowAt.load 6 Tryz.hT rfl ((fun W hp => h2.hp hp) W hp) rfl) ?_ | refine wl_load rfl rfl rfl rfl (fun W hp => RowAt.load 7 Tryz.hT rfl ((fun W hp => h2.hp hp) W hp) rfl) ?_ | refine wq_load rfl rfl rfl rfl (fun W hp => RowAt.load 0 Tryz.hT rfl ((fun W hp => h2.hp hp) W hp) rfl) ?_ | refine wq_load rfl rfl rfl rfl (fun W hp => RowAt.load 1 Tryz.hT rfl ((fun W hp => h2.hp hp) W hp) rfl) ?_ | refine wq_load rfl rfl rfl rfl (fun W hp => RowAt.load 2 Tryz.hT rfl ((fun W hp => h2.hp hp) W hp) rfl) ?_ | refine wq_load rfl rfl rfl rfl (fun W hp => RowAt.load 3 Tryz.hT rfl ((fun W hp => h2.hp hp) W hp) rfl) ?_ | refine wq_load rfl rfl rfl rfl (fun W hp => RowAt.load 4 Tryz.hT rfl ((fun W hp => h2.hp hp) W hp) rfl) ?_ | refine wq_load rfl rfl rfl rfl (fun W hp => RowAt.load 5 Tryz.hT rfl ((fun W hp => h2.hp hp) W hp) rfl) ?_ | refine wq_load rfl rfl rfl rfl (fun W hp => RowAt.load 6 Tryz.hT rfl ((fun W hp => h2.hp hp) W hp) rfl) ?_ | refine wq_load rfl rfl rfl rfl (fun W hp => RowAt.load 7 Tryz.hT rfl ((fun W hp => h2.hp hp) W hp) rfl) ?_)
  refine wl_call1 rfl rfl rfl rfl rfl rfl (by kernel_rfl) (fun W hp => (rcompare_gives t b z2 W (hv.hp hp) (ht.hp hp)).cast (by rw [cmpZ_Q])) ?_
  iterate 5 refine wl_pure Tryz.hT rfl rfl rfl ?_
  refine wl_nil ?_
  repeat (first | refine zA ?_ | refine zB ?_ | refine zC ?_ | refine zD ?_ | refine zE ?_ | refine zF ?_ | refine zG ?_ | refine zH ?_ | refine zI ?_ | refine zJ ?_ | refine zK ?_ | refine zL ?_ | refine zM rfl ?_ | refine zN ?_ | refine zO ?_ | refine zP ?_ | refine zQ ?_ | refine zR rfl ?_ | refine zS rfl ?_ | refine zT Tryz.mixed (by kernel_rfl) ?_)
  iterate 3 refine wl_pure Tryz.hT rfl rfl rfl ?_
  (first | refine wl_pure Tryz.hT rfl rfl rfl ?_ | refine wl_skip rfl rfl ?_)
  (first | refine wl_pure Tryz.hT rfl rfl rfl ?_ | refine wl_skip rfl rfl ?_)
  iterate 2 refine wl_pure Tryz.hT rfl rfl rfl ?_
  (first | refine wl_pure Tryz.hT rfl rfl rfl ?_ | refine wl_skip rfl rfl ?_)
  refine wl_pure Tryz.hT rfl rfl rfl ?_
  by_cases e1 : a ≤ t
  · refine wl_upd 29 (.bool true) rfl (congrArg Value.bool ((cmpQ_le a t).trans (decide_eq_true e1))) ?_
    iterate 2 refine wl_pure Tryz.hT rfl rfl rfl ?_
    (first | refine wl_pure Tryz.hT rfl rfl rfl ?_ | refine wl_skip rfl rfl ?_)
    refine wl_pure Tryz.hT rfl rfl rfl ?_
    refine wl_upd 33 (.bool (decide (a ≤ t ∧ t ≤ b))) rfl (congrArg Value.bool ((cmpQ_le t b).trans (by rw [decide_eq_decide]; exact ⟨fun h => ⟨e1, h⟩, fun h => h.2⟩))) ?_
    iterate 2 refine wl_pure Tryz.hT rfl rfl rfl ?_
    refine wl_nil ?_
    repeat (first | refine zA ?_ | refine zB ?_ | refine zC ?_ | refine zD ?_ | refine zE ?_ | refine zF ?_ | refine zG ?_ | refine zH ?_ | refine zI ?_ | refine zJ ?_ | refine zK ?_ | refine zL ?_ | refine zM rfl ?_ | refine zN ?_ | refine zO ?_ | refine zP ?_ | refine zQ ?_ | refine zR rfl ?_ | refine zS rfl ?_ | refine zT Tryz.mixed (by kernel_rfl) ?_)
    exact ne_ret1 Tryz.hT rfl (.tmp rfl) () rfl trivial fun W _ => NewBx.nil _ _
  · refine wl_upd 29 (.bool false) rfl (congrArg Value.bool ((cmpQ_le a t).trans (decide_eq_false e1))) ?_
    iterate 2 refine wl_pure Tryz.hT rfl rfl rfl ?_
    (first | refine wl_pure Tryz.hT rfl rfl rfl ?_ | refine wl_skip rfl rfl ?_)
    (first | refine wl_pure Tryz.hT rfl rfl rfl ?_ | refine wl_skip rfl rfl ?_)
    iterate 2 refine wl_pure Tryz.hT rfl rfl rfl ?_
    refine wl_nil ?_
    repeat (first | refine zA ?_ | refine zB ?_ | refine zC ?_ | refine zD ?_ | refine zE ?_ | refine zF ?_ | refine zG ?_ | refine zH ?_ | refine zI ?_ | refine zJ ?_ | refine zK ?_ | refine zL ?_ | refine zM rfl ?_ | refine zN ?_ | refine zO ?_ | refine zP ?_ | refine zQ ?_ | refine zR rfl ?_ | refine zS rfl ?_ | refine zT Tryz.mixed (by kernel_rfl) ?_)
    exact ne_ret1 Tryz.hT rfl (.tmp rfl) () (by rw [decide_eq_false fun h => e1 h.1]) trivial fun W _ => NewBx.nil _ _
/-- A function of numbers that a closure computes, in this world and in later ones. -/
def FnAt (g : Nat) (capt : List Value) (f : Rat → Bool) (l : List Rat) (W : World) : Prop := ∀ t ∈ l, ∀ W', Below W.heap.size W W' → CallsR Tryz.prog g ([str (numS t)] ++ capt).toArray W' (fun _ : Unit => .bool (f t)) (fun _ => True) (fun _ => [])
theorem FnAt.below {g : Nat} {capt : List Value} {f : Rat → Bool} {l : List Rat} {W W' : World} (h : FnAt g capt f l W) (hb : Below W.heap.size W W') : FnAt g capt f l W' :=
  fun t ht W2 hb2 => h t ht W2 (hb.trans ⟨hb2.os, hb2.tape, hb2.output, hb2.size, fun i hi => hb2.block i (Nat.lt_of_lt_of_le hi hb.size)⟩)
set_option maxHeartbeats 4000000 in
theorem indexQ_gives (g : Nat) (capt : List Value) (hE : entersB Tryz.prog g = true) (f : Rat → Bool) (l : List Rat) (W : World) (p : Option Addr) (cap : Nat) (hn : l.length < 4611686018427387904) (hS : StrsP W p (l.map numS)) (hF : FnAt g capt f l W) :
    CallsR Tryz.prog 68 #[slv p l.length cap, .func (.func g) #[] capt.toArray] W (fun k : Int => .int .i64 k) (fun k => (0 ≤ k ↔ l.any f = true)) (fun _ => []) := by
  refine calls_enter (args := [slv p l.length cap, .func (.func g) #[] capt.toArray]) Tryz.func68 rfl rfl rfl ?_
  repeat (first | refine zA ?_ | refine zB ?_ | refine zC ?_ | refine zD ?_ | refine zE ?_ | refine zF ?_ | refine zG ?_ | refine zH ?_ | refine zI ?_ | refine zJ ?_ | refine zK ?_ | refine zL ?_ | refine zM rfl ?_ | refine zN ?_ | refine zO ?_ | refine zP ?_ | refine zQ ?_ | refine zR rfl ?_ | refine zS rfl ?_ | refine zT Tryz.mixed (by kernel_rfl) ?_)
  refine wl_pure Tryz.hT rfl rfl rfl ?_
  refine wl_nil ?_
  repeat (first | refine zA ?_ | refine zB ?_ | refine zC ?_ | refine zD ?_ | refine zE ?_ | refine zF ?_ | refine zG ?_ | refine zH ?_ | refine zI ?_ | refine zJ ?_ | refine zK ?_ | refine zL ?_ | refine zM rfl ?_ | refine zN ?_ | refine zO ?_ | refine zP ?_ | refine zQ ?_ | refine zR rfl ?_ | refine zS rfl ?_ | refine zT Tryz.mixed (by kernel_rfl) ?_)
  iterate 3 refine wl_pure Tryz.hT rfl rfl rfl ?_
  refine wl_nil ?_
  repeat (first | refine zA ?_ | refine zB ?_ | refine zC ?_ | refine zD ?_ | refine zE ?_ | refine zF ?_ | refine zG ?_ | refine zH ?_ | refine zI ?_ | refine zJ ?_ | refine zK ?_ | refine zL ?_ | refine zM rfl ?_ | refine zN ?_ | refine zO ?_ | refine zP ?_ | refine zQ ?_ | refine zR rfl ?_ | refine zS rfl ?_ | refine zT Tryz.mixed (by kernel_rfl) ?_)
  refine wc_loop (X := Nat) (fun i => [(0, slv p l.length cap), (1, .func (.func g) #[] capt.toArray), (7, .int .i64 (l.length : Nat)), (8, .int .i64 (i : Nat))]) (fun _ => []) (fun i => i ≤ l.length ∧ ∀ k (hk : k < l.length), k < i → f l[k] = false) (fun i => l.length - i) 0 ⟨Nat.zero_le _, fun k _ h => absurd h (Nat.not_lt_zero _)⟩ ⟨rfl, rfl, rfl, rfl, trivial⟩ [] rfl ?_
  rintro i ⟨hi, hno⟩
  have hi : i ≤ l.length := hi
  repeat (first | refine zA ?_ | refine zB ?_ | refine zC ?_ | refine zD ?_ | refine zE ?_ | refine zF ?_ | refine zG ?_ | refine zH ?_ | refine zI ?_ | refine zJ ?_ | refine zK ?_ | refine zL ?_ | refine zM rfl ?_ | refine zN ?_ | refine zO ?_ | refine zP ?_ | refine zQ ?_ | refine zR rfl ?_ | refine zS rfl ?_ | refine zT Tryz.mixed (by kernel_rfl) ?_)
  refine wl_pure Tryz.hT rfl rfl rfl ?_
  by_cases hlt : i < l.length
  · refine wl_upd 9 (.bool true) rfl (congrArg Value.bool (decide_eq_true (by omega))) ?_
    refine wl_nil ?_
    repeat (first | refine zA ?_ | refine zB ?_ | refine zC ?_ | refine zD ?_ | refine zE ?_ | refine zF ?_ | refine zG ?_ | refine zH ?_ | refine zI ?_ | refine zJ ?_ | refine zK ?_ | refine zL ?_ | refine zM rfl ?_ | refine zN ?_ | refine zO ?_ | refine zP ?_ | refine zQ ?_ | refine zR rfl ?_ | refine zS rfl ?_ | refine zT Tryz.mixed (by kernel_rfl) ?_)
    obtain ⟨b, off, rfl, hrow⟩ := hS.row (i := i) (by rw [List.length_map]; exact hlt)
    repeat (first | refine zA ?_ | refine zB ?_ | refine zC ?_ | refine zD ?_ | refine zE ?_ | refine zF ?_ | refine zG ?_ | refine zH ?_ | refine zI ?_ | refine zJ ?_ | refine zK ?_ | refine zL ?_ | refine zM rfl ?_ | refine zN ?_ | refine zO ?_ | refine zP ?_ | refine zQ ?_ | refine zR rfl ?_ | refine zS rfl ?_ | refine zT Tryz.mixed (by kernel_rfl) ?_)
    iterate 2 refine wl_pure Tryz.hT rfl rfl rfl ?_
    refine wl_nil ?_
    repeat (first | refine zA ?_ | refine zB ?_ | refine zC ?_ | refine zD ?_ | refine zE ?_ | refine zF ?_ | refine zG ?_ | refine zH ?_ | refine zI ?_ | refine zJ ?_ | refine zK ?_ | refine zL ?_ | refine zM rfl ?_ | refine zN ?_ | refine zO ?_ | refine zP ?_ | refine zQ ?_ | refine zR rfl ?_ | refine zS rfl ?_ | refine zT Tryz.mixed (by kernel_rfl) ?_)
    iterate 3 refine wl_pure Tryz.hT rfl rfl rfl ?_
    (first | refine wl_indexAddr Tryz.hT rfl rfl rfl rfl rfl rfl rfl (by omega) (by omega) ?_ | refine wq_indexAddr Tryz.hT rfl rfl rfl rfl rfl rfl rfl (by omega) (by omega) ?_)
    have hrow1 : RowAt W b (off + i * 1) [str (numS l[i])] := by have := hrow i (by rw [List.length_map]; exact hlt); rwa [List.getElem_map] at this
    (first | refine wl_load rfl rfl rfl rfl (fun W hp => RowAt.load 0 Tryz.hT rfl ((fun W hp => hrow1.hp hp) W hp) rfl) ?_ | refine wl_load rfl rfl rfl rfl (fun W hp => RowAt.load 1 Tryz.hT rfl ((fun W hp => hrow1.hp hp) W hp) rfl) ?_ | refine wl_load rfl rfl rfl rfl (fun W hp => RowAt.load 2 Tryz.hT rfl ((fun W hp => hrow1.hp hp) W hp) rfl) ?_ | refine wl_load rfl rfl rfl rfl (fun W hp => RowAt.load 3 Tryz.hT rfl ((fun W hp => hrow1.hp hp) W hp) rfl) ?_ | refine wl_load rfl rfl rfl rfl (fun W hp => RowAt.load 4 Tryz.hT rfl ((fun W hp => hrow1.hp hp) W hp) rfl) ?_ | refine wl_load rfl rfl rfl rfl (fun W hp => RowAt.load 5 Tryz.hT rfl ((fun W hp => hrow1.hp hp) W hp) rfl) ?_ | refine wl_load rfl rfl rfl rfl (fun W hp => RowAt.load 6 Tryz.hT rfl ((fun W hp => hrow1.hp hp) W hp) rfl) ?_ | refine wl_load rfl rfl rfl rfl (fun W hp => RowAt.load 7 Tryz.hT rfl ((fun W hp => hrow1.hp hp) W hp) rfl) ?_ | refine wq_load rfl rfl rfl rfl (fun W hp => RowAt.load 0 Tryz.hT rfl ((fun W hp => hrow1.hp hp) W hp) rfl) ?_ | refine wq_load rfl rfl rfl rfl (fun W hp => RowAt.load 1 Tryz.hT rfl ((fun W hp => hrow1.hp hp) W hp) rfl) ?_ | refine wq_load rfl rfl rfl rfl (fun W hp => RowAt.load 2 Tryz.hT rfl ((fun W hp => hrow1.hp hp) W hp) rfl) ?_ | refine wq_load rfl rfl rfl rfl (fun W hp => RowAt.load 3 Tryz.hT rfl ((fun W hp => hrow1.hp hp) W hp) rfl) ?_ | refine wq_load rfl rfl rfl rfl (fun W hp => RowAt.load 4 Tryz.hT rfl ((fun W hp => hrow1.hp hp) W hp) rfl) ?_ | refine wq_load rfl rfl rfl rfl (fun W hp => RowAt.load 5 Tryz.hT rfl ((fun W hp => hrow1.hp hp) W hp) rfl) ?_ | refine wq_load rfl rfl rfl rfl (fun W hp => RowAt.load 6 Tryz.hT rfl ((fun W hp => hrow1.hp hp) W hp) rfl) ?_ | refine wq_load rfl rfl rfl rfl (fun W hp => RowAt.load 7 Tryz.hT rfl ((fun W hp => hrow1.hp hp) W hp) rfl) ?_)
    refine wl_call1 (capt := capt) rfl rfl rfl rfl rfl rfl hE (fun W1 hp => hF l[i] (List.getElem_mem hlt) W1 hp.below) ?_
    refine wl_nil ?_
    repeat (first | refine zA ?_ | refine zB ?_ | refine zC ?_ | refine zD ?_ | refine zE ?_ | refine zF ?_ | refine zG ?_ | refine zH ?_ | refine zI ?_ | refine zJ ?_ | refine zK ?_ | refine zL ?_ | refine zM rfl ?_ | refine zN ?_ | refine zO ?_ | refine zP ?_ | refine zQ ?_ | refine zR rfl ?_ | refine zS rfl ?_ | refine zT Tryz.mixed (by kernel_rfl) ?_)
    refine wc_cond rfl (fun hc => ?_) (fun hc => ?_)
    · have hc : f l[i] = true := hc
      repeat (first | refine zA ?_ | refine zB ?_ | refine zC ?_ | refine zD ?_ | refine zE ?_ | refine zF ?_ | refine zG ?_ | refine zH ?_ | refine zI ?_ | refine zJ ?_ | refine zK ?_ | refine zL ?_ | refine zM rfl ?_ | refine zN ?_ | refine zO ?_ | refine zP ?_ | refine zQ ?_ | refine zR rfl ?_ | refine zS rfl ?_ | refine zT Tryz.mixed (by kernel_rfl) ?_)
      iterate 2 refine wl_pure Tryz.hT rfl rfl rfl ?_
      refine wl_nil ?_
      repeat (first | refine zA ?_ | refine zB ?_ | refine zC ?_ | refine zD ?_ | refine zE ?_ | refine zF ?_ | refine zG ?_ | refine zH ?_ | refine zI ?_ | refine zJ ?_ | refine zK ?_ | refine zL ?_ | refine zM rfl ?_ | refine zN ?_ | refine zO ?_ | refine zP ?_ | refine zQ ?_ | refine zR rfl ?_ | refine zS rfl ?_ | refine zT Tryz.mixed (by kernel_rfl) ?_)
      exact ne_ret1 Tryz.hT rfl (.tmp rfl) ((i : Nat) : Int) rfl ⟨fun _ => List.any_eq_true.2 ⟨l[i], List.getElem_mem hlt, hc⟩, fun _ => by omega⟩ fun W _ => NewBx.nil _ _
    · have hc : f l[i] = false := hc
      repeat (first | refine zA ?_ | refine zB ?_ | refine zC ?_ | refine zD ?_ | refine zE ?_ | refine zF ?_ | refine zG ?_ | refine zH ?_ | refine zI ?_ | refine zJ ?_ | refine zK ?_ | refine zL ?_ | refine zM rfl ?_ | refine zN ?_ | refine zO ?_ | refine zP ?_ | refine zQ ?_ | refine zR rfl ?_ | refine zS rfl ?_ | refine zT Tryz.mixed (by kernel_rfl) ?_)
      refine wl_pure Tryz.hT rfl rfl rfl ?_
      refine wl_upd 18 (.int .i64 ((i + 1 : Nat) : Int)) rfl (congrArg (Value.int .i64) (w64_succ (by omega))) ?_
      refine wl_pure Tryz.hT rfl rfl rfl ?_
      refine wl_nil ?_
      repeat (first | refine zA ?_ | refine zB ?_ | refine zC ?_ | refine zD ?_ | refine zE ?_ | refine zF ?_ | refine zG ?_ | refine zH ?_ | refine zI ?_ | refine zJ ?_ | refine zK ?_ | refine zL ?_ | refine zM rfl ?_ | refine zN ?_ | refine zO ?_ | refine zP ?_ | refine zQ ?_ | refine zR rfl ?_ | refine zS rfl ?_ | refine zT Tryz.mixed (by kernel_rfl) ?_)
      refine ne_loop (i + 1) ⟨hlt, fun k hk h => ?_⟩ (by show l.length - (i + 1) < l.length - i; omega) ⟨rfl, rfl, rfl, rfl, trivial⟩ [] rfl
      by_cases e : k = i
      · subst e; exact hc
      · exact hno k hk (by show k < i; omega)
  · refine wl_upd 9 (.bool false) rfl (congrArg Value.bool (decide_eq_false (by omega))) ?_
    refine wl_nil ?_
    repeat (first | refine zA ?_ | refine zB ?_ | refine zC ?_ | refine zD ?_ | refine zE ?_ | refine zF ?_ | refine zG ?_ | refine zH ?_ | refine zI ?_ | refine zJ ?_ | refine zK ?_ | refine zL ?_ | refine zM rfl ?_ | refine zN ?_ | refine zO ?_ | refine zP ?_ | refine zQ ?_ | refine zR rfl ?_ | refine zS rfl ?_ | refine zT Tryz.mixed (by kernel_rfl) ?_)
    refine wl_pure Tryz.hT rfl rfl rfl ?_
    refine wl_nil ?_
    repeat (first | refine zA ?_ | refine zB ?_ | refine zC ?_ | refine zD ?_ | refine zE ?_ | refine zF ?_ | refine zG ?_ | refine zH ?_ | refine zI ?_ | refine zJ ?_ | refine zK ?_ | refine zL ?_ | refine zM rfl ?_ | refine zN ?_ | refine zO ?_ | refine zP ?_ | refine zQ ?_ | refine zR rfl ?_ | refine zS rfl ?_ | refine zT Tryz.mixed (by kernel_rfl) ?_)
    refine ne_ret1 Tryz.hT rfl (.tmp rfl) (-1 : Int) rfl ⟨fun h => absurd h (by decide), fun h => ?_⟩ fun W _ => NewBx.nil _ _
    obtain ⟨t, ht, hft⟩ := List.any_eq_true.1 h
    obtain ⟨k, hk, rfl⟩ := List.getElem_of_mem ht
    rw [hno k hk (by show k < i; omega)] at hft
    cases hft
set_option maxHeartbeats 4000000 in
theorem containsQ_gives (g : Nat) (capt : List Value) (hE : entersB Tryz.prog g = true) (f : Rat → Bool) (l : List Rat) (W : World) (p : Option Addr) (cap : Nat) (hn : l.length < 4611686018427387904) (hS : StrsP W p (l.map numS)) (hF : FnAt g capt f l W) :
    CallsR Tryz.prog 23 #[slv p l.length cap, .func (.func g) #[] capt.toArray] W (fun _ : Unit => .bool (l.any f)) (fun _ => True) (fun _ => []) := by
  refine calls_enter (args := [slv p l.length cap, .func (.func g) #[] capt.toArray]) Tryz.func23 rfl rfl rfl ?_
  repeat (first | refine zA ?_ | refine zB ?_ | refine zC ?_ | refine zD ?_ | refine zE ?_ | refine zF ?_ | refine zG ?_ | refine zH ?_ | refine zI ?_ | refine zJ ?_ | refine zK ?_ | refine zL ?_ | refine zM rfl ?_ | refine zN ?_ | refine zO ?_ | refine zP ?_ | refine zQ ?_ | refine zR rfl ?_ | refine zS rfl ?_ | refine zT Tryz.mixed (by kernel_rfl) ?_)
  refine wl_pure Tryz.hT rfl rfl rfl ?_
  refine wl_nil ?_
  repeat (first | refine zA ?_ | refine zB ?_ | refine zC ?_ | refine zD ?_ | refine zE ?_ | refine zF ?_ | refine zG ?_ | refine zH ?_ | refine zI ?_ | refine zJ ?_ | refine zK ?_ | refine zL ?_ | refine zM rfl ?_ | refine zN ?_ | refine zO ?_ | refine zP ?_ | refine zQ ?_ | refine zR rfl ?_ | refine zS rfl ?_ | refine zT Tryz.mixed (by kernel_rfl) ?_)
  iterate 2 refine wl_pure Tryz.hT rfl rfl rfl ?_
  refine wl_call (X := Int) rfl rfl rfl rfl rfl rfl (by kernel_rfl) (fun W hp => indexQ_gives g capt hE f l W p cap hn (hS.hp hp) (hF.below hp.below)) ?_
  intro k hk
  refine wl_pure Tryz.hT rfl rfl rfl ?_
  refine wl_upd 8 (.bool (l.any f)) rfl (congrArg Value.bool (by
    cases h : l.any f
    · exact decide_eq_false fun e => by rw [hk.1 e] at h; cases h
    · exact decide_eq_true (hk.2 h))) ?_
  refine wl_pure Tryz.hT rfl rfl rfl ?_
  refine wl_nil ?_
  repeat (first | refine zA ?_ | refine zB ?_ | refine zC ?_ | refine zD ?_ | refine zE ?_ | refine zF ?_ | refine zG ?_ | refine zH ?_ | refine zI ?_ | refine zJ ?_ | refine zK ?_ | refine zL ?_ | refine zM rfl ?_ | refine zN ?_ | refine zO ?_ | refine zP ?_ | refine zQ ?_ | refine zR rfl ?_ | refine zS rfl ?_ | refine zT Tryz.mixed (by kernel_rfl) ?_)
  exact ne_ret1 Tryz.hT rfl (.tmp rfl) () rfl trivial fun W _ => NewBx.nil _ _
set_option maxHeartbeats 4000000 in
theorem gapF_gives (f g : FrP) (hf : f.Sm) (hg : g.Sm) (t : Rat) (hz : szQ t 28) (W : World) (hv : MaxP W) (ht : TabP W) :
    CallsR Tryz.prog 21 #[frV f, frV g, str (numS t)] W (fun _ : Unit => .tuple #[.int .i64 (cmpQ (f.at t) (g.at t)), .bool true]) (fun _ => True) (fun _ => []) := by
  refine calls_enter (args := [frV f, frV g, str (numS t)]) Tryz.func21 rfl rfl rfl ?_
  repeat (first | refine zA ?_ | refine zB ?_ | refine zC ?_ | refine zD ?_ | refine zE ?_ | refine zF ?_ | refine zG ?_ | refine zH ?_ | refine zI ?_ | refine zJ ?_ | refine zK ?_ | refine zL ?_ | refine zM rfl ?_ | refine zN ?_ | refine zO ?_ | refine zP ?_ | refine zQ ?_ | refine zR rfl ?_ | refine zS rfl ?_ | refine zT Tryz.mixed (by kernel_rfl) ?_)
  (refine wl_box rfl rfl rfl rfl ?_; intro)
  (refine wl_box rfl rfl rfl rfl ?_; intro)
  iterate 2 refine wl_pure Tryz.hT rfl rfl rfl ?_
  refine wl_nil ?_
  repeat (first | refine zA ?_ | refine zB ?_ | refine zC ?_ | refine zD ?_ | refine zE ?_ | refine zF ?_ | refine zG ?_ | refine zH ?_ | refine zI ?_ | refine zJ ?_ | refine zK ?_ | refine zL ?_ | refine zM rfl ?_ | refine zN ?_ | refine zO ?_ | refine zP ?_ | refine zQ ?_ | refine zR rfl ?_ | refine zS rfl ?_ | refine zT Tryz.mixed (by kernel_rfl) ?_)
  (first | refine wl_loadBx 0 Tryz.hT rfl rfl rfl rfl rfl rfl rfl rfl ?_ | refine wl_loadBx 1 Tryz.hT rfl rfl rfl rfl rfl rfl rfl rfl ?_ | refine wl_loadBx 2 Tryz.hT rfl rfl rfl rfl rfl rfl rfl rfl ?_ | refine wl_loadBx 3 Tryz.hT rfl rfl rfl rfl rfl rfl rfl rfl ?_)
  refine wl_pure Tryz.hT rfl rfl rfl ?_
  refine wl_call1 rfl rfl rfl rfl rfl rfl (by kernel_rfl) (fun W hp => fPos_gives f hf.ok t (hz.mono (by decide)) W (hv.hp hp) (ht.hp hp)) ?_
  iterate 5 refine wl_pure Tryz.hT rfl rfl rfl ?_
  refine wl_nil ?_
  repeat (first | refine zA ?_ | refine zB ?_ | refine zC ?_ | refine zD ?_ | refine zE ?_ | refine zF ?_ | refine zG ?_ | refine zH ?_ | refine zI ?_ | refine zJ ?_ | refine zK ?_ | refine zL ?_ | refine zM rfl ?_ | refine zN ?_ | refine zO ?_ | refine zP ?_ | refine zQ ?_ | refine zR rfl ?_ | refine zS rfl ?_ | refine zT Tryz.mixed (by kernel_rfl) ?_)
  (first | refine wl_loadBx 0 Tryz.hT rfl rfl rfl rfl rfl rfl rfl rfl ?_ | refine wl_loadBx 1 Tryz.hT rfl rfl rfl rfl rfl rfl rfl rfl ?_ | refine wl_loadBx 2 Tryz.hT rfl rfl rfl rfl rfl rfl rfl rfl ?_ | refine wl_loadBx 3 Tryz.hT rfl rfl rfl rfl rfl rfl rfl rfl ?_)
  refine wl_pure Tryz.hT rfl rfl rfl ?_
  refine wl_call1 rfl rfl rfl rfl rfl rfl (by kernel_rfl) (fun W hp => fPos_gives g hg.ok t (hz.mono (by decide)) W (hv.hp hp) (ht.hp hp)) ?_
  iterate 5 refine wl_pure Tryz.hT rfl rfl rfl ?_
  refine wl_nil ?_
  repeat (first | refine zA ?_ | refine zB ?_ | refine zC ?_ | refine zD ?_ | refine zE ?_ | refine zF ?_ | refine zG ?_ | refine zH ?_ | refine zI ?_ | refine zJ ?_ | refine zK ?_ | refine zL ?_ | refine zM rfl ?_ | refine zN ?_ | refine zO ?_ | refine zP ?_ | refine zQ ?_ | refine zR rfl ?_ | refine zS rfl ?_ | refine zT Tryz.mixed (by kernel_rfl) ?_)
  iterate 2 refine wl_pure Tryz.hT rfl rfl rfl ?_
  refine wl_call1 rfl rfl rfl rfl rfl rfl (by kernel_rfl) (fun W hp => (rcompare_gives (f.at t) (g.at t) (sz2 (at_sz hf hz) (at_sz hg hz) (by decide)) W (hv.hp hp) (ht.hp hp)).cast (by rw [cmpZ_Q])) ?_
  iterate 5 refine wl_pure Tryz.hT rfl rfl rfl ?_
  refine wl_nil ?_
  repeat (first | refine zA ?_ | refine zB ?_ | refine zC ?_ | refine zD ?_ | refine zE ?_ | refine zF ?_ | refine zG ?_ | refine zH ?_ | refine zI ?_ | refine zJ ?_ | refine zK ?_ | refine zL ?_ | refine zM rfl ?_ | refine zN ?_ | refine zO ?_ | refine zP ?_ | refine zQ ?_ | refine zR rfl ?_ | refine zS rfl ?_ | refine zT Tryz.mixed (by kernel_rfl) ?_)
  iterate 8 refine wl_pure Tryz.hT rfl rfl rfl ?_
  refine wl_nil ?_
  repeat (first | refine zA ?_ | refine zB ?_ | refine zC ?_ | refine zD ?_ | refine zE ?_ | refine zF ?_ | refine zG ?_ | refine zH ?_ | refine zI ?_ | refine zJ ?_ | refine zK ?_ | refine zL ?_ | refine zM rfl ?_ | refine zN ?_ | refine zO ?_ | refine zP ?_ | refine zQ ?_ | refine zR rfl ?_ | refine zS rfl ?_ | refine zT Tryz.mixed (by kernel_rfl) ?_)
  exact ne_ret2 Tryz.hT rfl (.tmp rfl) (.tmp rfl) () rfl trivial fun W _ => NewBx.nil _ _
end Go.Proofs.YteaiopkopifijaaGreatDoor
namespace Go.Proofs.YteaiopkopifijaaGreatDoor
open Go Go.RowKit Go.Am Go.Lib
set_option maxRecDepth 10000
-- BOXES 8
/-- A row that was appended, opened once for all worlds. -/
theorem vec_open {V : Vec} {l : List Rat} (hV : V.OK 1 l.length (nS l)) :
    ∃ p cap, V.val l.length = slv p l.length cap ∧ (∀ {W0 W : World} {bxs : List Bx} (k : Nat), nth bxs k = some (V.bx 28 (nS l)) → Hp W0 bxs W → StrsP W p (l.map numS)) ∧
      (0 < l.length → ∃ g, p = some ⟨g, 0, none⟩ ∧ ∀ {W0 W : World} {bxs : List Bx} (k : Nat), nth bxs k = some (V.bx 28 (nS l)) → Hp W0 bxs W → ∀ i (hi : i < l.length), RowAt W g (0 + i * 1) [str (numS l[i])]) := by
  obtain ⟨p, cap, junk⟩ := V
  have e : (l.map numS).map str = nS l := by simp [nS]
  cases p with
  | none =>
    have h0 := hV.nil rfl
    have hl : l = [] := List.length_eq_zero_iff.1 h0
    subst hl
    exact ⟨none, 0, rfl, fun _ _ _ => .inl rfl, fun h => absurd h (Nat.lt_irrefl _)⟩
  | some g =>
    refine ⟨some ⟨g, 0, none⟩, cap, rfl, fun k hk hp => .inr ⟨g, 0, rfl, ?_⟩, fun _ => ⟨g, rfl, fun k hk hp i hi => ?_⟩⟩
    · rw [e]
      exact row_pt hp k (A := []) (C := junk) (hk.trans (by rfl)) rfl rfl
    · have h3 : l = l.take i ++ l[i] :: l.drop (i + 1) := by rw [← List.drop_eq_getElem_cons hi, List.take_append_drop]
      have e2 : nS l = nS (l.take i) ++ (str (numS l[i]) :: nS (l.drop (i + 1))) := (congrArg nS h3).trans List.map_append
      refine row_pt hp k (xs := nS l ++ junk) (A := nS (l.take i)) (C := nS (l.drop (i + 1)) ++ junk) (hk.trans (by rfl)) (by rw [e2, List.append_assoc]; rfl) (by rw [List.length_map, List.length_take]; omega)
theorem strict_step {l : List Rat} (h : l.Pairwise (· < ·)) {i : Nat} (hi : i + 1 < l.length) : cmpQ (l[i]'(by omega)) l[i + 1] = -1 := by
  rw [cmpQ, if_pos (List.pairwise_iff_getElem.1 h i (i + 1) (by omega) hi (by omega))]
set_option maxHeartbeats 32000000 in
theorem meetsF_gives (x y : SmP) (hx : x.OK) (hy : y.OK) (a b : Nat) (ha : a < 65536) (hb : b < 65536) (W : World) (hv : MaxP W) (ht : TabP W) :
    CallsR Tryz.prog 5 #[smV x, smV y, .int .u16 (a : Nat), .int .u16 (b : Nat)] W (fun _ : Unit => .bool true) (fun _ => True) (fun _ => []) := by
  obtain ⟨y1, e1⟩ : ∃ y1 : SmP, y1 = ⟨x.a, y.b, y.p, y.n, y.d, y.s⟩ := ⟨_, rfl⟩
  have hy1 : y1.OK := by subst e1; exact ⟨hy.p, hy.n, hy.d, hy.s⟩
  have a1 : x.of.ax = y1.of.ax := by subst e1; rfl
  obtain ⟨f, hf⟩ : ∃ f, f = x.of := ⟨_, rfl⟩
  obtain ⟨g, hg⟩ : ∃ g, g = y1.of := ⟨_, rfl⟩
  have sf : f.Sm := hf ▸ hx.sm
  have sg : g.Sm := hg ▸ hy1.sm
  have hax : f.ax = g.ax := by rw [hf, hg]; exact a1
  have lf : ∀ W, TabP W → CallsR Tryz.prog 13 #[smV x] W (fun _ : Unit => frV f) (fun _ => True) (fun _ => []) := fun W ht => by rw [hf]; exact lof_gives x hx W ht
  have lg : ∀ W, TabP W → CallsR Tryz.prog 13 #[smV y1] W (fun _ : Unit => frV g) (fun _ => True) (fun _ => []) := fun W ht => by rw [hg]; exact lof_gives y1 hy1 W ht
  obtain ⟨lo, hlo⟩ : ∃ lo, lo = min a b := ⟨_, rfl⟩
  obtain ⟨hi, hhi⟩ : ∃ hi, hi = max a b := ⟨_, rfl⟩
  have hl : lo ≤ hi ∧ hi < 65536 := by omega
  obtain ⟨t1, h1⟩ : ∃ t, t = nrm (lo : Nat) 4 := ⟨_, rfl⟩
  obtain ⟨t2, h2⟩ : ∃ t, t = nrm (hi : Nat) 4 := ⟨_, rfl⟩
  have z1 : szQ t1 5 := h1 ▸ qtr_sz (by rw [Int.natAbs_natCast]; show _ < 100000; omega) (by decide)
  have z2 : szQ t2 5 := h2 ▸ qtr_sz (by rw [Int.natAbs_natCast]; show _ < 100000; omega) (by decide)
  have hle : t1 ≤ t2 := by rw [h1, h2]; exact qtr_le (by omega)
  have hm := (meetZ_small sf sg).2
  have hsz : ∀ t ∈ eqL f g, szQ t 28 := fun t h => hm t (mem_eqL.1 h).1
  have hat : ∀ t ∈ eqL f g, cmpQ (f.at t) (g.at t) = 0 := fun t h => by
    rw [(frEq_iff.1 (mem_eqL.1 h).2).1, cmpQ, if_neg Rat.lt_irrefl, if_pos rfl]
  have hstr := eqL_strict f g
  have h2l := eqL_two f g
  refine calls_enter (args := [smV x, smV y, .int .u16 (a : Nat), .int .u16 (b : Nat)]) Tryz.func5 rfl rfl rfl ?_
  repeat (first | refine zA ?_ | refine zB ?_ | refine zC ?_ | refine zD ?_ | refine zE ?_ | refine zF ?_ | refine zG ?_ | refine zH ?_ | refine zI ?_ | refine zJ ?_ | refine zK ?_ | refine zL ?_ | refine zM rfl ?_ | refine zN ?_ | refine zO ?_ | refine zP ?_ | refine zQ ?_ | refine zR rfl ?_ | refine zS rfl ?_ | refine zT Tryz.mixed (by kernel_rfl) ?_)
  (refine wl_box rfl rfl rfl rfl ?_; intro)
  (refine wl_box rfl rfl rfl rfl ?_; intro)
  refine wl_pure Tryz.hT rfl rfl rfl ?_
  refine wl_nil ?_
  rename_i b4 b5
  repeat (first | refine zA ?_ | refine zB ?_ | refine zC ?_ | refine zD ?_ | refine zE ?_ | refine zF ?_ | refine zG ?_ | refine zH ?_ | refine zI ?_ | refine zJ ?_ | refine zK ?_ | refine zL ?_ | refine zM rfl ?_ | refine zN ?_ | refine zO ?_ | refine zP ?_ | refine zQ ?_ | refine zR rfl ?_ | refine zS rfl ?_ | refine zT Tryz.mixed (by kernel_rfl) ?_)
  refine wl_pure Tryz.hT rfl rfl rfl ?_
  (first | refine wl_loadBx 0 Tryz.hT rfl rfl rfl rfl rfl rfl rfl rfl ?_ | refine wl_loadBx 1 Tryz.hT rfl rfl rfl rfl rfl rfl rfl rfl ?_ | refine wl_loadBx 2 Tryz.hT rfl rfl rfl rfl rfl rfl rfl rfl ?_ | refine wl_loadBx 3 Tryz.hT rfl rfl rfl rfl rfl rfl rfl rfl ?_ | refine wl_loadBx 4 Tryz.hT rfl rfl rfl rfl rfl rfl rfl rfl ?_ | refine wl_loadBx 5 Tryz.hT rfl rfl rfl rfl rfl rfl rfl rfl ?_ | refine wl_loadBx 6 Tryz.hT rfl rfl rfl rfl rfl rfl rfl rfl ?_ | refine wl_loadBx 7 Tryz.hT rfl rfl rfl rfl rfl rfl rfl rfl ?_)
  refine wl_pure Tryz.hT rfl rfl rfl ?_
  (first | refine wl_storeBx 0 Tryz.hT rfl rfl rfl rfl rfl rfl rfl rfl rfl rfl rfl ?_ | refine wl_storeBx 1 Tryz.hT rfl rfl rfl rfl rfl rfl rfl rfl rfl rfl rfl ?_ | refine wl_storeBx 2 Tryz.hT rfl rfl rfl rfl rfl rfl rfl rfl rfl rfl rfl ?_ | refine wl_storeBx 3 Tryz.hT rfl rfl rfl rfl rfl rfl rfl rfl rfl rfl rfl ?_ | refine wl_storeBx 4 Tryz.hT rfl rfl rfl rfl rfl rfl rfl rfl rfl rfl rfl ?_ | refine wl_storeBx 5 Tryz.hT rfl rfl rfl rfl rfl rfl rfl rfl rfl rfl rfl ?_ | refine wl_storeBx 6 Tryz.hT rfl rfl rfl rfl rfl rfl rfl rfl rfl rfl rfl ?_ | refine wl_storeBx 7 Tryz.hT rfl rfl rfl rfl rfl rfl rfl rfl rfl rfl rfl ?_)
  refine wl_nil ?_
  repeat (first | refine zC ?_ | refine zD ?_ | refine zE ?_ | refine zF ?_ | refine zG ?_ | refine zH ?_ | refine zI ?_ | refine zJ ?_ | refine zK ?_ | refine zL ?_ | refine zM rfl ?_ | refine zN ?_ | refine zO ?_ | refine zP ?_ | refine zQ ?_ | refine zR rfl ?_ | refine zS rfl ?_)
  refine wc_seq ?_
  refine wc_bx (bxs' := [smB b4 x, smB b5 y1]) (by subst e1; rfl) ?_
  refine wc_lateY (X := Nat × Nat) [true, true, true, true, false, false, false, false] (fun c => [(2, .int .u16 (a : Nat)), (3, .int .u16 (b : Nat)), (9, selfP c.1), (10, selfP c.2)]) (fun c => [smB b4 x, smB b5 y1, frB c.1 f, frB c.2 g])
      4 [smB b4 x, smB b5 y1] Tryz.mixed (by kernel_rfl) ?_ ?_
  · (first | refine wq_loadBx 0 Tryz.hT rfl rfl rfl rfl rfl rfl rfl rfl ?_ | refine wq_loadBx 1 Tryz.hT rfl rfl rfl rfl rfl rfl rfl rfl ?_ | refine wq_loadBx 2 Tryz.hT rfl rfl rfl rfl rfl rfl rfl rfl ?_ | refine wq_loadBx 3 Tryz.hT rfl rfl rfl rfl rfl rfl rfl rfl ?_ | refine wq_loadBx 4 Tryz.hT rfl rfl rfl rfl rfl rfl rfl rfl ?_ | refine wq_loadBx 5 Tryz.hT rfl rfl rfl rfl rfl rfl rfl rfl ?_ | refine wq_loadBx 6 Tryz.hT rfl rfl rfl rfl rfl rfl rfl rfl ?_ | refine wq_loadBx 7 Tryz.hT rfl rfl rfl rfl rfl rfl rfl rfl ?_)
    refine wq_call1 rfl rfl rfl rfl rfl rfl (by kernel_rfl) (fun W hp => lf W (ht.hp hp)) ?_
    (first | refine wq_loadBx 0 Tryz.hT rfl rfl rfl rfl rfl rfl rfl rfl ?_ | refine wq_loadBx 1 Tryz.hT rfl rfl rfl rfl rfl rfl rfl rfl ?_ | refine wq_loadBx 2 Tryz.hT rfl rfl rfl rfl rfl rfl rfl rfl ?_ | refine wq_loadBx 3 Tryz.hT rfl rfl rfl rfl rfl rfl rfl rfl ?_ | refine wq_loadBx 4 Tryz.hT rfl rfl rfl rfl rfl rfl rfl rfl ?_ | refine wq_loadBx 5 Tryz.hT rfl rfl rfl rfl rfl rfl rfl rfl ?_ | refine wq_loadBx 6 Tryz.hT rfl rfl rfl rfl rfl rfl rfl rfl ?_ | refine wq_loadBx 7 Tryz.hT rfl rfl rfl rfl rfl rfl rfl rfl ?_)
    refine wq_call1 rfl rfl rfl rfl rfl rfl (by kernel_rfl) (fun W hp => lg W (ht.hp hp)) ?_
    refine wq_wt ?_
    first | refine wt_step rfl rfl (by ((repeat (first | refine Weak.same ?_ | refine Weak.off rfl ?_)); exact trivial)) ?_ | refine wt_stepF rfl rfl (by kernel_rfl) ?_
    refine RS.cons ?_ (RS.cons ?_ (RS.nil))
    · refine wl_allocZ Tryz.hZ rfl rfl rfl rfl ?_; intro b9
      refine wl_nil ?_
      refine ne_wt ?_
      first | refine wt_step rfl rfl (by ((repeat (first | refine Weak.same ?_ | refine Weak.off rfl ?_)); exact trivial)) ?_ | refine wt_stepF rfl rfl (by kernel_rfl) ?_
      refine RS.cons ?_ (RS.nil)
      refine wl_allocZ Tryz.hZ rfl rfl rfl rfl ?_; intro b10
      refine wl_nil ?_
      refine ne_wt ?_
      first | refine wt_step rfl rfl (by ((repeat (first | refine Weak.same ?_ | refine Weak.off rfl ?_)); exact trivial)) ?_ | refine wt_stepF rfl rfl (by kernel_rfl) ?_
      refine RS.cons ?_ (RS.nil)
      (first | refine wl_storeBx 2 Tryz.hT rfl rfl rfl rfl rfl rfl rfl rfl rfl rfl rfl ?_ | refine wl_storeBx 3 Tryz.hT rfl rfl rfl rfl rfl rfl rfl rfl rfl rfl rfl ?_)
      refine wl_nil ?_
      refine ne_wt ?_
      first | refine wt_step rfl rfl (by ((repeat (first | refine Weak.same ?_ | refine Weak.off rfl ?_)); exact trivial)) ?_ | refine wt_stepF rfl rfl (by kernel_rfl) ?_
      refine RS.cons ?_ (RS.nil)
      (first | refine wl_storeBx 3 Tryz.hT rfl rfl rfl rfl rfl rfl rfl rfl rfl rfl rfl ?_ | refine wl_storeBx 2 Tryz.hT rfl rfl rfl rfl rfl rfl rfl rfl rfl rfl rfl ?_)
      refine wl_nil ?_
      refine ne_wt ?_
      (first | refine wt_done rfl (by ((repeat (first | refine Weak.same ?_ | refine Weak.off rfl ?_)); exact trivial)) ?_ | refine wt_doneF rfl (by kernel_rfl) ?_); (first | exact ne_late (b9, b10) ⟨rfl, rfl, rfl, rfl, trivial⟩ [0, 1, 2, 3] (by decide) rfl | exact ne_late (b9, b10) ⟨rfl, rfl, rfl, rfl, trivial⟩ [0, 1, 3, 2] (by decide) rfl)
    · refine wl_allocZ Tryz.hZ rfl rfl rfl rfl ?_; intro b10
      refine wl_nil ?_
      refine ne_wt ?_
      first | refine wt_step rfl rfl (by ((repeat (first | refine Weak.same ?_ | refine Weak.off rfl ?_)); exact trivial)) ?_ | refine wt_stepF rfl rfl (by kernel_rfl) ?_
      refine RS.cons ?_ (RS.nil)
      refine wl_allocZ Tryz.hZ rfl rfl rfl rfl ?_; intro b9
      refine wl_nil ?_
      refine ne_wt ?_
      first | refine wt_step rfl rfl (by ((repeat (first | refine Weak.same ?_ | refine Weak.off rfl ?_)); exact trivial)) ?_ | refine wt_stepF rfl rfl (by kernel_rfl) ?_
      refine RS.cons ?_ (RS.nil)
      (first | refine wl_storeBx 2 Tryz.hT rfl rfl rfl rfl rfl rfl rfl rfl rfl rfl rfl ?_ | refine wl_storeBx 3 Tryz.hT rfl rfl rfl rfl rfl rfl rfl rfl rfl rfl rfl ?_)
      refine wl_nil ?_
      refine ne_wt ?_
      first | refine wt_step rfl rfl (by ((repeat (first | refine Weak.same ?_ | refine Weak.off rfl ?_)); exact trivial)) ?_ | refine wt_stepF rfl rfl (by kernel_rfl) ?_
      refine RS.cons ?_ (RS.nil)
      (first | refine wl_storeBx 3 Tryz.hT rfl rfl rfl rfl rfl rfl rfl rfl rfl rfl rfl ?_ | refine wl_storeBx 2 Tryz.hT rfl rfl rfl rfl rfl rfl rfl rfl rfl rfl rfl ?_)
      refine wl_nil ?_
      refine ne_wt ?_
      (first | refine wt_done rfl (by ((repeat (first | refine Weak.same ?_ | refine Weak.off rfl ?_)); exact trivial)) ?_ | refine wt_doneF rfl (by kernel_rfl) ?_); (first | exact ne_late (b9, b10) ⟨rfl, rfl, rfl, rfl, trivial⟩ [0, 1, 2, 3] (by decide) rfl | exact ne_late (b9, b10) ⟨rfl, rfl, rfl, rfl, trivial⟩ [0, 1, 3, 2] (by decide) rfl)
  rintro ⟨b9, b10⟩
  repeat (first | refine zA ?_ | refine zB ?_ | refine zC ?_ | refine zD ?_ | refine zE ?_ | refine zF ?_ | refine zG ?_ | refine zH ?_ | refine zI ?_ | refine zJ ?_ | refine zK ?_ | refine zL ?_ | refine zM rfl ?_ | refine zN ?_ | refine zO ?_ | refine zP ?_ | refine zQ ?_ | refine zR rfl ?_ | refine zS rfl ?_ | refine zT Tryz.mixed (by kernel_rfl) ?_)
  (first | refine wl_loadBx 0 Tryz.hT rfl rfl rfl rfl rfl rfl rfl rfl ?_ | refine wl_loadBx 1 Tryz.hT rfl rfl rfl rfl rfl rfl rfl rfl ?_ | refine wl_loadBx 2 Tryz.hT rfl rfl rfl rfl rfl rfl rfl rfl ?_ | refine wl_loadBx 3 Tryz.hT rfl rfl rfl rfl rfl rfl rfl rfl ?_ | refine wl_loadBx 4 Tryz.hT rfl rfl rfl rfl rfl rfl rfl rfl ?_ | refine wl_loadBx 5 Tryz.hT rfl rfl rfl rfl rfl rfl rfl rfl ?_ | refine wl_loadBx 6 Tryz.hT rfl rfl rfl rfl rfl rfl rfl rfl ?_ | refine wl_loadBx 7 Tryz.hT rfl rfl rfl rfl rfl rfl rfl rfl ?_)
  (first | refine wl_loadBx 0 Tryz.hT rfl rfl rfl rfl rfl rfl rfl rfl ?_ | refine wl_loadBx 1 Tryz.hT rfl rfl rfl rfl rfl rfl rfl rfl ?_ | refine wl_loadBx 2 Tryz.hT rfl rfl rfl rfl rfl rfl rfl rfl ?_ | refine wl_loadBx 3 Tryz.hT rfl rfl rfl rfl rfl rfl rfl rfl ?_ | refine wl_loadBx 4 Tryz.hT rfl rfl rfl rfl rfl rfl rfl rfl ?_ | refine wl_loadBx 5 Tryz.hT rfl rfl rfl rfl rfl rfl rfl rfl ?_ | refine wl_loadBx 6 Tryz.hT rfl rfl rfl rfl rfl rfl rfl rfl ?_ | refine wl_loadBx 7 Tryz.hT rfl rfl rfl rfl rfl rfl rfl rfl ?_)
  refine wl_call (X := Vec) rfl rfl rfl rfl rfl rfl (by kernel_rfl) (fun W hp => fEqualS_gives f g sf sg hax W (hv.hp hp) (ht.hp hp)) ?_
  intro V hV
  obtain ⟨p, cap, eV, hS, hR⟩ := vec_open hV
  iterate 3 refine wl_pure Tryz.hT rfl rfl rfl ?_
  refine wl_upd 37 (slv p (eqL f g).length cap) rfl eV ?_
  iterate 2 refine wl_pure Tryz.hT rfl rfl rfl ?_
  refine wl_nil ?_
  repeat (first | refine zA ?_ | refine zB ?_ | refine zC ?_ | refine zD ?_ | refine zE ?_ | refine zF ?_ | refine zG ?_ | refine zH ?_ | refine zI ?_ | refine zJ ?_ | refine zK ?_ | refine zL ?_ | refine zM rfl ?_ | refine zN ?_ | refine zO ?_ | refine zP ?_ | refine zQ ?_ | refine zR rfl ?_ | refine zS rfl ?_ | refine zT Tryz.mixed (by kernel_rfl) ?_)
  iterate 3 refine wl_pure Tryz.hT rfl rfl rfl ?_
  (first | refine wl_pure Tryz.hT rfl rfl rfl ?_ | refine wl_skip rfl rfl ?_)
  (first | refine wl_pure Tryz.hT rfl rfl rfl ?_ | refine wl_skip rfl rfl ?_)
  (first | refine wl_pure Tryz.hT rfl rfl rfl ?_ | refine wl_skip rfl rfl ?_)
  refine wl_upd 44 (.bool false) rfl (congrArg Value.bool (decide_eq_false (by omega))) ?_
  refine wl_pure Tryz.hT rfl rfl rfl ?_
  refine wl_nil ?_
  repeat (first | refine zA ?_ | refine zB ?_ | refine zC ?_ | refine zD ?_ | refine zE ?_ | refine zF ?_ | refine zG ?_ | refine zH ?_ | refine zI ?_ | refine zJ ?_ | refine zK ?_ | refine zL ?_ | refine zM rfl ?_ | refine zN ?_ | refine zO ?_ | refine zP ?_ | refine zQ ?_ | refine zR rfl ?_ | refine zS rfl ?_ | refine zT Tryz.mixed (by kernel_rfl) ?_)
  iterate 3 refine wl_pure Tryz.hT rfl rfl rfl ?_
  refine wl_nil ?_
  repeat (first | refine zA ?_ | refine zB ?_ | refine zC ?_ | refine zD ?_ | refine zE ?_ | refine zF ?_ | refine zG ?_ | refine zH ?_ | refine zI ?_ | refine zJ ?_ | refine zK ?_ | refine zL ?_ | refine zM rfl ?_ | refine zN ?_ | refine zO ?_ | refine zP ?_ | refine zQ ?_ | refine zR rfl ?_ | refine zS rfl ?_ | refine zT Tryz.mixed (by kernel_rfl) ?_)
  refine wc_loop (X := Nat) (fun i => [(2, .int .u16 (a : Nat)), (3, .int .u16 (b : Nat)), (9, selfP b9), (10, selfP b10), (11, slv p (eqL f g).length cap), (46, slv p (eqL f g).length cap), (47, .int .i64 ((eqL f g).length : Nat)), (48, .int .i64 (i : Nat))])
    (fun _ => [smB b4 x, smB b5 y1, frB b9 f, frB b10 g, V.bx 28 (nS (eqL f g))]) (fun i => i ≤ (eqL f g).length) (fun i => (eqL f g).length - i) 0 (Nat.zero_le _) ⟨rfl, rfl, rfl, rfl, rfl, rfl, rfl, rfl, trivial⟩ [] rfl ?_
  intro i hii
  have hii : i ≤ (eqL f g).length := hii
  repeat (first | refine zA ?_ | refine zB ?_ | refine zC ?_ | refine zD ?_ | refine zE ?_ | refine zF ?_ | refine zG ?_ | refine zH ?_ | refine zI ?_ | refine zJ ?_ | refine zK ?_ | refine zL ?_ | refine zM rfl ?_ | refine zN ?_ | refine zO ?_ | refine zP ?_ | refine zQ ?_ | refine zR rfl ?_ | refine zS rfl ?_ | refine zT Tryz.mixed (by kernel_rfl) ?_)
  refine wl_pure Tryz.hT rfl rfl rfl ?_
  by_cases hlt : i < (eqL f g).length
  · refine wl_upd 49 (.bool true) rfl (congrArg Value.bool (decide_eq_true (by omega))) ?_
    refine wl_nil ?_
    repeat (first | refine zA ?_ | refine zB ?_ | refine zC ?_ | refine zD ?_ | refine zE ?_ | refine zF ?_ | refine zG ?_ | refine zH ?_ | refine zI ?_ | refine zJ ?_ | refine zK ?_ | refine zL ?_ | refine zM rfl ?_ | refine zN ?_ | refine zO ?_ | refine zP ?_ | refine zQ ?_ | refine zR rfl ?_ | refine zS rfl ?_ | refine zT Tryz.mixed (by kernel_rfl) ?_)
    obtain ⟨gb, rfl, hrow⟩ := hR (by omega)
    repeat (first | refine zA ?_ | refine zB ?_ | refine zC ?_ | refine zD ?_ | refine zE ?_ | refine zF ?_ | refine zG ?_ | refine zH ?_ | refine zI ?_ | refine zJ ?_ | refine zK ?_ | refine zL ?_ | refine zM rfl ?_ | refine zN ?_ | refine zO ?_ | refine zP ?_ | refine zQ ?_ | refine zR rfl ?_ | refine zS rfl ?_ | refine zT Tryz.mixed (by kernel_rfl) ?_)
    refine wl_pure Tryz.hT rfl rfl rfl ?_
    (first | refine wl_indexAddr Tryz.hT rfl rfl rfl rfl rfl rfl rfl (by omega) (by omega) ?_ | refine wq_indexAddr Tryz.hT rfl rfl rfl rfl rfl rfl rfl (by omega) (by omega) ?_)
    (first | refine wl_load rfl rfl rfl rfl (fun W hp => RowAt.load 0 Tryz.hT rfl ((fun W hp => hrow 4 rfl hp i hlt) W hp) rfl) ?_ | refine wl_load rfl rfl rfl rfl (fun W hp => RowAt.load 1 Tryz.hT rfl ((fun W hp => hrow 4 rfl hp i hlt) W hp) rfl) ?_ | refine wl_load rfl rfl rfl rfl (fun W hp => RowAt.load 2 Tryz.hT rfl ((fun W hp => hrow 4 rfl hp i hlt) W hp) rfl) ?_ | refine wl_load rfl rfl rfl rfl (fun W hp => RowAt.load 3 Tryz.hT rfl ((fun W hp => hrow 4 rfl hp i hlt) W hp) rfl) ?_ | refine wl_load rfl rfl rfl rfl (fun W hp => RowAt.load 4 Tryz.hT rfl ((fun W hp => hrow 4 rfl hp i hlt) W hp) rfl) ?_ | refine wl_load rfl rfl rfl rfl (fun W hp => RowAt.load 5 Tryz.hT rfl ((fun W hp => hrow 4 rfl hp i hlt) W hp) rfl) ?_ | refine wl_load rfl rfl rfl rfl (fun W hp => RowAt.load 6 Tryz.hT rfl ((fun W hp => hrow 4 rfl hp i hlt) W hp) rfl) ?_ | refine wl_load rfl rfl rfl rfl (fun W hp => RowAt.load 7 Tryz.hT rfl ((fun W hp => hrow 4 rfl hp i hlt) W hp) rfl) ?_ | refine wq_load rfl rfl rfl rfl (fun W hp => RowAt.load 0 Tryz.hT rfl ((fun W hp => hrow 4 rfl hp i hlt) W hp) rfl) ?_ | refine wq_load rfl rfl rfl rfl (fun W hp => RowAt.load 1 Tryz.hT rfl ((fun W hp => hrow 4 rfl hp i hlt) W hp) rfl) ?_ | refine wq_load rfl rfl rfl rfl (fun W hp => RowAt.load 2 Tryz.hT rfl ((fun W hp => hrow 4 rfl hp i hlt) W hp) rfl) ?_ | refine wq_load rfl rfl rfl rfl (fun W hp => RowAt.load 3 Tryz.hT rfl ((fun W hp => hrow 4 rfl hp i hlt) W hp) rfl) ?_ | refine wq_load rfl rfl rfl rfl (fun W hp => RowAt.load 4 Tryz.hT rfl ((fun W hp => hrow 4 rfl hp i hlt) W hp) rfl) ?_ | refine wq_load rfl rfl rfl rfl (fun W hp => RowAt.load 5 Tryz.hT rfl ((fun W hp => hrow 4 rfl hp i hlt) W hp) rfl) ?_ | refine wq_load rfl rfl rfl rfl (fun W hp => RowAt.load 6 Tryz.hT rfl ((fun W hp => hrow 4 rfl hp i hlt) W hp) rfl) ?_ | refine wq_load rfl rfl rfl rfl (fun W hp => RowAt.load 7 Tryz.hT rfl ((fun W hp => hrow 4 rfl hp i hlt) W hp) rfl) ?_)
    iterate 2 refine wl_pure Tryz.hT rfl rfl rfl ?_
    refine wl_nil ?_
    repeat (first | refine zA ?_ | refine zB ?_ | refine zC ?_ | refine zD ?_ | refine zE ?_ | refine zF ?_ | refine zG ?_ | refine zH ?_ | refine zI ?_ | refine zJ ?_ | refine zK ?_ | refine zL ?_ | refine zM rfl ?_ | refine zN ?_ | refine zO ?_ | refine zP ?_ | refine zQ ?_ | refine zR rfl ?_ | refine zS rfl ?_ | refine zT Tryz.mixed (by kernel_rfl) ?_)
    (first | refine wl_loadBx 0 Tryz.hT rfl rfl rfl rfl rfl rfl rfl rfl ?_ | refine wl_loadBx 1 Tryz.hT rfl rfl rfl rfl rfl rfl rfl rfl ?_ | refine wl_loadBx 2 Tryz.hT rfl rfl rfl rfl rfl rfl rfl rfl ?_ | refine wl_loadBx 3 Tryz.hT rfl rfl rfl rfl rfl rfl rfl rfl ?_ | refine wl_loadBx 4 Tryz.hT rfl rfl rfl rfl rfl rfl rfl rfl ?_ | refine wl_loadBx 5 Tryz.hT rfl rfl rfl rfl rfl rfl rfl rfl ?_ | refine wl_loadBx 6 Tryz.hT rfl rfl rfl rfl rfl rfl rfl rfl ?_ | refine wl_loadBx 7 Tryz.hT rfl rfl rfl rfl rfl rfl rfl rfl ?_)
    (first | refine wl_loadBx 0 Tryz.hT rfl rfl rfl rfl rfl rfl rfl rfl ?_ | refine wl_loadBx 1 Tryz.hT rfl rfl rfl rfl rfl rfl rfl rfl ?_ | refine wl_loadBx 2 Tryz.hT rfl rfl rfl rfl rfl rfl rfl rfl ?_ | refine wl_loadBx 3 Tryz.hT rfl rfl rfl rfl rfl rfl rfl rfl ?_ | refine wl_loadBx 4 Tryz.hT rfl rfl rfl rfl rfl rfl rfl rfl ?_ | refine wl_loadBx 5 Tryz.hT rfl rfl rfl rfl rfl rfl rfl rfl ?_ | refine wl_loadBx 6 Tryz.hT rfl rfl rfl rfl rfl rfl rfl rfl ?_ | refine wl_loadBx 7 Tryz.hT rfl rfl rfl rfl rfl rfl rfl rfl ?_)
    refine wl_pure Tryz.hT rfl rfl rfl ?_
    refine wl_call1 rfl rfl rfl rfl rfl rfl (by kernel_rfl) (fun W hp => (gapF_gives f g sf sg (eqL f g)[i] (hsz _ (List.getElem_mem hlt)) W (hv.hp hp) (ht.hp hp)).cast (by rw [hat _ (List.getElem_mem hlt)])) ?_
    iterate 5 refine wl_pure Tryz.hT rfl rfl rfl ?_
    refine wl_nil ?_
    repeat (first | refine zA ?_ | refine zB ?_ | refine zC ?_ | refine zD ?_ | refine zE ?_ | refine zF ?_ | refine zG ?_ | refine zH ?_ | refine zI ?_ | refine zJ ?_ | refine zK ?_ | refine zL ?_ | refine zM rfl ?_ | refine zN ?_ | refine zO ?_ | refine zP ?_ | refine zQ ?_ | refine zR rfl ?_ | refine zS rfl ?_ | refine zT Tryz.mixed (by kernel_rfl) ?_)
    iterate 3 refine wl_pure Tryz.hT rfl rfl rfl ?_
    (first | refine wl_pure Tryz.hT rfl rfl rfl ?_ | refine wl_skip rfl rfl ?_)
    (first | refine wl_pure Tryz.hT rfl rfl rfl ?_ | refine wl_skip rfl rfl ?_)
    refine wl_pure Tryz.hT rfl rfl rfl ?_
    refine wl_nil ?_
    repeat (first | refine zA ?_ | refine zB ?_ | refine zC ?_ | refine zD ?_ | refine zE ?_ | refine zF ?_ | refine zG ?_ | refine zH ?_ | refine zI ?_ | refine zJ ?_ | refine zK ?_ | refine zL ?_ | refine zM rfl ?_ | refine zN ?_ | refine zO ?_ | refine zP ?_ | refine zQ ?_ | refine zR rfl ?_ | refine zS rfl ?_ | refine zT Tryz.mixed (by kernel_rfl) ?_)
    iterate 2 refine wl_pure Tryz.hT rfl rfl rfl ?_
    cases i with
    | zero =>
      refine wl_upd 67 (.bool false) rfl rfl ?_
      refine wl_nil ?_
      repeat (first | refine zA ?_ | refine zB ?_ | refine zC ?_ | refine zD ?_ | refine zE ?_ | refine zF ?_ | refine zG ?_ | refine zH ?_ | refine zI ?_ | refine zJ ?_ | refine zK ?_ | refine zL ?_ | refine zM rfl ?_ | refine zN ?_ | refine zO ?_ | refine zP ?_ | refine zQ ?_ | refine zR rfl ?_ | refine zS rfl ?_ | refine zT Tryz.mixed (by kernel_rfl) ?_)
      refine wl_pure Tryz.hT rfl rfl rfl ?_
      refine wl_upd 84 (.int .i64 ((0 + 1 : Nat) : Int)) rfl rfl ?_
      refine wl_pure Tryz.hT rfl rfl rfl ?_
      refine wl_nil ?_
      repeat (first | refine zA ?_ | refine zB ?_ | refine zC ?_ | refine zD ?_ | refine zE ?_ | refine zF ?_ | refine zG ?_ | refine zH ?_ | refine zI ?_ | refine zJ ?_ | refine zK ?_ | refine zL ?_ | refine zM rfl ?_ | refine zN ?_ | refine zO ?_ | refine zP ?_ | refine zQ ?_ | refine zR rfl ?_ | refine zS rfl ?_ | refine zT Tryz.mixed (by kernel_rfl) ?_)
      exact ne_loop (0 + 1) hlt (by show (eqL f g).length - (0 + 1) < (eqL f g).length - 0; omega) ⟨rfl, rfl, rfl, rfl, rfl, rfl, rfl, rfl, trivial⟩ [] rfl
    | succ m =>
      refine wl_upd 67 (.bool true) rfl (congrArg Value.bool (decide_eq_true (by omega))) ?_
      refine wl_nil ?_
      repeat (first | refine zA ?_ | refine zB ?_ | refine zC ?_ | refine zD ?_ | refine zE ?_ | refine zF ?_ | refine zG ?_ | refine zH ?_ | refine zI ?_ | refine zJ ?_ | refine zK ?_ | refine zL ?_ | refine zM rfl ?_ | refine zN ?_ | refine zO ?_ | refine zP ?_ | refine zQ ?_ | refine zR rfl ?_ | refine zS rfl ?_ | refine zT Tryz.mixed (by kernel_rfl) ?_)
      iterate 3 refine wl_pure Tryz.hT rfl rfl rfl ?_
      refine wl_upd 71 (.int .i64 (m : Nat)) rfl (congrArg (Value.int .i64) (show w64 (((m + 1 : Nat) : Int) - 1) = _ by rw [w64_id (by omega) (by omega)]; omega)) ?_
      (first | refine wl_indexAddr Tryz.hT rfl rfl rfl rfl rfl rfl rfl (by omega) (by omega) ?_ | refine wq_indexAddr Tryz.hT rfl rfl rfl rfl rfl rfl rfl (by omega) (by omega) ?_)
      (first | refine wl_load rfl rfl rfl rfl (fun W hp => RowAt.load 0 Tryz.hT rfl ((fun W hp => hrow 4 rfl hp m (by omega)) W hp) rfl) ?_ | refine wl_load rfl rfl rfl rfl (fun W hp => RowAt.load 1 Tryz.hT rfl ((fun W hp => hrow 4 rfl hp m (by omega)) W hp) rfl) ?_ | refine wl_load rfl rfl rfl rfl (fun W hp => RowAt.load 2 Tryz.hT rfl ((fun W hp => hrow 4 rfl hp m (by omega)) W hp) rfl) ?_ | refine wl_load rfl rfl rfl rfl (fun W hp => RowAt.load 3 Tryz.hT rfl ((fun W hp => hrow 4 rfl hp m (by omega)) W hp) rfl) ?_ | refine wl_load rfl rfl rfl rfl (fun W hp => RowAt.load 4 Tryz.hT rfl ((fun W hp => hrow 4 rfl hp m (by omega)) W hp) rfl) ?_ | refine wl_load rfl rfl rfl rfl (fun W hp => RowAt.load 5 Tryz.hT rfl ((fun W hp => hrow 4 rfl hp m (by omega)) W hp) rfl) ?_ | refine wl_load rfl rfl rfl rfl (fun W hp => RowAt.load 6 Tryz.hT rfl ((fun W hp => hrow 4 rfl hp m (by omega)) W hp) rfl) ?_ | refine wl_load rfl rfl rfl rfl (fun W hp => RowAt.load 7 Tryz.hT rfl ((fun W hp => hrow 4 rfl hp m (by omega)) W hp) rfl) ?_ | refine wq_load rfl rfl rfl rfl (fun W hp => RowAt.load 0 Tryz.hT rfl ((fun W hp => hrow 4 rfl hp m (by omega)) W hp) rfl) ?_ | refine wq_load rfl rfl rfl rfl (fun W hp => RowAt.load 1 Tryz.hT rfl ((fun W hp => hrow 4 rfl hp m (by omega)) W hp) rfl) ?_ | refine wq_load rfl rfl rfl rfl (fun W hp => RowAt.load 2 Tryz.hT rfl ((fun W hp => hrow 4 rfl hp m (by omega)) W hp) rfl) ?_ | refine wq_load rfl rfl rfl rfl (fun W hp => RowAt.load 3 Tryz.hT rfl ((fun W hp => hrow 4 rfl hp m (by omega)) W hp) rfl) ?_ | refine wq_load rfl rfl rfl rfl (fun W hp => RowAt.load 4 Tryz.hT rfl ((fun W hp => hrow 4 rfl hp m (by omega)) W hp) rfl) ?_ | refine wq_load rfl rfl rfl rfl (fun W hp => RowAt.load 5 Tryz.hT rfl ((fun W hp => hrow 4 rfl hp m (by omega)) W hp) rfl) ?_ | refine wq_load rfl rfl rfl rfl (fun W hp => RowAt.load 6 Tryz.hT rfl ((fun W hp => hrow 4 rfl hp m (by omega)) W hp) rfl) ?_ | refine wq_load rfl rfl rfl rfl (fun W hp => RowAt.load 7 Tryz.hT rfl ((fun W hp => hrow 4 rfl hp m (by omega)) W hp) rfl) ?_)
      refine wl_pure Tryz.hT rfl rfl rfl ?_
      refine wl_call1 rfl rfl rfl rfl rfl rfl (by kernel_rfl) (fun W hp => (rcompare_gives ((eqL f g)[m]'(by omega)) (eqL f g)[m + 1] (sz2 (hsz _ (List.getElem_mem _)) (hsz _ (List.getElem_mem _)) (by decide)) W (hv.hp hp) (ht.hp hp)).cast (by rw [cmpZ_Q, strict_step hstr hlt])) ?_
      iterate 5 refine wl_pure Tryz.hT rfl rfl rfl ?_
      refine wl_nil ?_
      repeat (first | refine zA ?_ | refine zB ?_ | refine zC ?_ | refine zD ?_ | refine zE ?_ | refine zF ?_ | refine zG ?_ | refine zH ?_ | refine zI ?_ | refine zJ ?_ | refine zK ?_ | refine zL ?_ | refine zM rfl ?_ | refine zN ?_ | refine zO ?_ | refine zP ?_ | refine zQ ?_ | refine zR rfl ?_ | refine zS rfl ?_ | refine zT Tryz.mixed (by kernel_rfl) ?_)
      iterate 3 refine wl_pure Tryz.hT rfl rfl rfl ?_
      (first | refine wl_pure Tryz.hT rfl rfl rfl ?_ | refine wl_skip rfl rfl ?_)
      (first | refine wl_pure Tryz.hT rfl rfl rfl ?_ | refine wl_skip rfl rfl ?_)
      refine wl_pure Tryz.hT rfl rfl rfl ?_
      refine wl_nil ?_
      repeat (first | refine zA ?_ | refine zB ?_ | refine zC ?_ | refine zD ?_ | refine zE ?_ | refine zF ?_ | refine zG ?_ | refine zH ?_ | refine zI ?_ | refine zJ ?_ | refine zK ?_ | refine zL ?_ | refine zM rfl ?_ | refine zN ?_ | refine zO ?_ | refine zP ?_ | refine zQ ?_ | refine zR rfl ?_ | refine zS rfl ?_ | refine zT Tryz.mixed (by kernel_rfl) ?_)
      refine wl_pure Tryz.hT rfl rfl rfl ?_
      refine wl_upd 84 (.int .i64 ((m + 1 + 1 : Nat) : Int)) rfl (congrArg (Value.int .i64) (w64_succ (by omega))) ?_
      refine wl_pure Tryz.hT rfl rfl rfl ?_
      refine wl_nil ?_
      repeat (first | refine zA ?_ | refine zB ?_ | refine zC ?_ | refine zD ?_ | refine zE ?_ | refine zF ?_ | refine zG ?_ | refine zH ?_ | refine zI ?_ | refine zJ ?_ | refine zK ?_ | refine zL ?_ | refine zM rfl ?_ | refine zN ?_ | refine zO ?_ | refine zP ?_ | refine zQ ?_ | refine zR rfl ?_ | refine zS rfl ?_ | refine zT Tryz.mixed (by kernel_rfl) ?_)
      exact ne_loop (m + 1 + 1) hlt (by show (eqL f g).length - (m + 1 + 1) < (eqL f g).length - (m + 1); omega) ⟨rfl, rfl, rfl, rfl, rfl, rfl, rfl, rfl, trivial⟩ [] rfl
  · refine wl_upd 49 (.bool false) rfl (congrArg Value.bool (decide_eq_false (by omega))) ?_
    refine wl_nil ?_
    repeat (first | refine zA ?_ | refine zB ?_ | refine zC ?_ | refine zD ?_ | refine zE ?_ | refine zF ?_ | refine zG ?_ | refine zH ?_ | refine zI ?_ | refine zJ ?_ | refine zK ?_ | refine zL ?_ | refine zM rfl ?_ | refine zN ?_ | refine zO ?_ | refine zP ?_ | refine zQ ?_ | refine zR rfl ?_ | refine zS rfl ?_ | refine zT Tryz.mixed (by kernel_rfl) ?_)
    iterate 3 refine wl_pure Tryz.hT rfl rfl rfl ?_
    refine wl_upd 87 (.int .u16 (lo : Nat)) rfl (congrArg (Value.int .u16) (by show (if _ then _ else _) = _; split <;> omega)) ?_
    refine wl_cvA Tryz.underlying35 Tryz.underlying3 rfl rfl rfl rfl ?_
    refine wl_upd 88 (.int .i64 (lo : Nat)) rfl (congrArg (Value.int .i64) (w64_nat (by omega))) ?_
    refine wl_call1 rfl rfl rfl rfl rfl rfl (by kernel_rfl) (fun W hp => (lnum_gives (lo : Nat) 4 (by decide) (by omega) (by decide) W (ht.hp hp)).cast (by rw [← h1])) ?_
    iterate 3 refine wl_pure Tryz.hT rfl rfl rfl ?_
    refine wl_upd 92 (.int .u16 (hi : Nat)) rfl (congrArg (Value.int .u16) (by show (if _ then _ else _) = _; split <;> omega)) ?_
    refine wl_cvA Tryz.underlying35 Tryz.underlying3 rfl rfl rfl rfl ?_
    refine wl_upd 93 (.int .i64 (hi : Nat)) rfl (congrArg (Value.int .i64) (w64_nat (by omega))) ?_
    refine wl_call1 rfl rfl rfl rfl rfl rfl (by kernel_rfl) (fun W hp => (lnum_gives (hi : Nat) 4 (by decide) (by omega) (by decide) W (ht.hp hp)).cast (by rw [← h2])) ?_
    (refine wl_allocZ Tryz.hZ rfl rfl rfl rfl ?_; intro)
    (refine wl_allocZ Tryz.hZ rfl rfl rfl rfl ?_; intro)
    (first | refine wl_storeBx 0 Tryz.hT rfl rfl rfl rfl rfl rfl rfl rfl rfl rfl rfl ?_ | refine wl_storeBx 1 Tryz.hT rfl rfl rfl rfl rfl rfl rfl rfl rfl rfl rfl ?_ | refine wl_storeBx 2 Tryz.hT rfl rfl rfl rfl rfl rfl rfl rfl rfl rfl rfl ?_ | refine wl_storeBx 3 Tryz.hT rfl rfl rfl rfl rfl rfl rfl rfl rfl rfl rfl ?_ | refine wl_storeBx 4 Tryz.hT rfl rfl rfl rfl rfl rfl rfl rfl rfl rfl rfl ?_ | refine wl_storeBx 5 Tryz.hT rfl rfl rfl rfl rfl rfl rfl rfl rfl rfl rfl ?_ | refine wl_storeBx 6 Tryz.hT rfl rfl rfl rfl rfl rfl rfl rfl rfl rfl rfl ?_ | refine wl_storeBx 7 Tryz.hT rfl rfl rfl rfl rfl rfl rfl rfl rfl rfl rfl ?_)
    (first | refine wl_storeBx 0 Tryz.hT rfl rfl rfl rfl rfl rfl rfl rfl rfl rfl rfl ?_ | refine wl_storeBx 1 Tryz.hT rfl rfl rfl rfl rfl rfl rfl rfl rfl rfl rfl ?_ | refine wl_storeBx 2 Tryz.hT rfl rfl rfl rfl rfl rfl rfl rfl rfl rfl rfl ?_ | refine wl_storeBx 3 Tryz.hT rfl rfl rfl rfl rfl rfl rfl rfl rfl rfl rfl ?_ | refine wl_storeBx 4 Tryz.hT rfl rfl rfl rfl rfl rfl rfl rfl rfl rfl rfl ?_ | refine wl_storeBx 5 Tryz.hT rfl rfl rfl rfl rfl rfl rfl rfl rfl rfl rfl ?_ | refine wl_storeBx 6 Tryz.hT rfl rfl rfl rfl rfl rfl rfl rfl rfl rfl rfl ?_ | refine wl_storeBx 7 Tryz.hT rfl rfl rfl rfl rfl rfl rfl rfl rfl rfl rfl ?_)
    refine wl_nil ?_
    rename_i b19 b20
    repeat (first | refine zA ?_ | refine zB ?_ | refine zC ?_ | refine zD ?_ | refine zE ?_ | refine zF ?_ | refine zG ?_ | refine zH ?_ | refine zI ?_ | refine zJ ?_ | refine zK ?_ | refine zL ?_ | refine zM rfl ?_ | refine zN ?_ | refine zO ?_ | refine zP ?_ | refine zQ ?_ | refine zR rfl ?_ | refine zS rfl ?_ | refine zT Tryz.mixed (by kernel_rfl) ?_)
    (first | refine wl_loadBx 0 Tryz.hT rfl rfl rfl rfl rfl rfl rfl rfl ?_ | refine wl_loadBx 1 Tryz.hT rfl rfl rfl rfl rfl rfl rfl rfl ?_ | refine wl_loadBx 2 Tryz.hT rfl rfl rfl rfl rfl rfl rfl rfl ?_ | refine wl_loadBx 3 Tryz.hT rfl rfl rfl rfl rfl rfl rfl rfl ?_ | refine wl_loadBx 4 Tryz.hT rfl rfl rfl rfl rfl rfl rfl rfl ?_ | refine wl_loadBx 5 Tryz.hT rfl rfl rfl rfl rfl rfl rfl rfl ?_ | refine wl_loadBx 6 Tryz.hT rfl rfl rfl rfl rfl rfl rfl rfl ?_ | refine wl_loadBx 7 Tryz.hT rfl rfl rfl rfl rfl rfl rfl rfl ?_)
    (first | refine wl_loadBx 0 Tryz.hT rfl rfl rfl rfl rfl rfl rfl rfl ?_ | refine wl_loadBx 1 Tryz.hT rfl rfl rfl rfl rfl rfl rfl rfl ?_ | refine wl_loadBx 2 Tryz.hT rfl rfl rfl rfl rfl rfl rfl rfl ?_ | refine wl_loadBx 3 Tryz.hT rfl rfl rfl rfl rfl rfl rfl rfl ?_ | refine wl_loadBx 4 Tryz.hT rfl rfl rfl rfl rfl rfl rfl rfl ?_ | refine wl_loadBx 5 Tryz.hT rfl rfl rfl rfl rfl rfl rfl rfl ?_ | refine wl_loadBx 6 Tryz.hT rfl rfl rfl rfl rfl rfl rfl rfl ?_ | refine wl_loadBx 7 Tryz.hT rfl rfl rfl rfl rfl rfl rfl rfl ?_)
    (first | refine wl_loadBx 0 Tryz.hT rfl rfl rfl rfl rfl rfl rfl rfl ?_ | refine wl_loadBx 1 Tryz.hT rfl rfl rfl rfl rfl rfl rfl rfl ?_ | refine wl_loadBx 2 Tryz.hT rfl rfl rfl rfl rfl rfl rfl rfl ?_ | refine wl_loadBx 3 Tryz.hT rfl rfl rfl rfl rfl rfl rfl rfl ?_ | refine wl_loadBx 4 Tryz.hT rfl rfl rfl rfl rfl rfl rfl rfl ?_ | refine wl_loadBx 5 Tryz.hT rfl rfl rfl rfl rfl rfl rfl rfl ?_ | refine wl_loadBx 6 Tryz.hT rfl rfl rfl rfl rfl rfl rfl rfl ?_ | refine wl_loadBx 7 Tryz.hT rfl rfl rfl rfl rfl rfl rfl rfl ?_)
    refine wl_call1 rfl rfl rfl rfl rfl rfl (by kernel_rfl) (fun W hp => gapF_gives f g sf sg t1 (z1.mono (by decide)) W (hv.hp hp) (ht.hp hp)) ?_
    iterate 5 refine wl_pure Tryz.hT rfl rfl rfl ?_
    refine wl_nil ?_
    repeat (first | refine zA ?_ | refine zB ?_ | refine zC ?_ | refine zD ?_ | refine zE ?_ | refine zF ?_ | refine zG ?_ | refine zH ?_ | refine zI ?_ | refine zJ ?_ | refine zK ?_ | refine zL ?_ | refine zM rfl ?_ | refine zN ?_ | refine zO ?_ | refine zP ?_ | refine zQ ?_ | refine zR rfl ?_ | refine zS rfl ?_ | refine zT Tryz.mixed (by kernel_rfl) ?_)
    (first | refine wl_loadBx 0 Tryz.hT rfl rfl rfl rfl rfl rfl rfl rfl ?_ | refine wl_loadBx 1 Tryz.hT rfl rfl rfl rfl rfl rfl rfl rfl ?_ | refine wl_loadBx 2 Tryz.hT rfl rfl rfl rfl rfl rfl rfl rfl ?_ | refine wl_loadBx 3 Tryz.hT rfl rfl rfl rfl rfl rfl rfl rfl ?_ | refine wl_loadBx 4 Tryz.hT rfl rfl rfl rfl rfl rfl rfl rfl ?_ | refine wl_loadBx 5 Tryz.hT rfl rfl rfl rfl rfl rfl rfl rfl ?_ | refine wl_loadBx 6 Tryz.hT rfl rfl rfl rfl rfl rfl rfl rfl ?_ | refine wl_loadBx 7 Tryz.hT rfl rfl rfl rfl rfl rfl rfl rfl ?_)
    (first | refine wl_loadBx 0 Tryz.hT rfl rfl rfl rfl rfl rfl rfl rfl ?_ | refine wl_loadBx 1 Tryz.hT rfl rfl rfl rfl rfl rfl rfl rfl ?_ | refine wl_loadBx 2 Tryz.hT rfl rfl rfl rfl rfl rfl rfl rfl ?_ | refine wl_loadBx 3 Tryz.hT rfl rfl rfl rfl rfl rfl rfl rfl ?_ | refine wl_loadBx 4 Tryz.hT rfl rfl rfl rfl rfl rfl rfl rfl ?_ | refine wl_loadBx 5 Tryz.hT rfl rfl rfl rfl rfl rfl rfl rfl ?_ | refine wl_loadBx 6 Tryz.hT rfl rfl rfl rfl rfl rfl rfl rfl ?_ | refine wl_loadBx 7 Tryz.hT rfl rfl rfl rfl rfl rfl rfl rfl ?_)
    (first | refine wl_loadBx 0 Tryz.hT rfl rfl rfl rfl rfl rfl rfl rfl ?_ | refine wl_loadBx 1 Tryz.hT rfl rfl rfl rfl rfl rfl rfl rfl ?_ | refine wl_loadBx 2 Tryz.hT rfl rfl rfl rfl rfl rfl rfl rfl ?_ | refine wl_loadBx 3 Tryz.hT rfl rfl rfl rfl rfl rfl rfl rfl ?_ | refine wl_loadBx 4 Tryz.hT rfl rfl rfl rfl rfl rfl rfl rfl ?_ | refine wl_loadBx 5 Tryz.hT rfl rfl rfl rfl rfl rfl rfl rfl ?_ | refine wl_loadBx 6 Tryz.hT rfl rfl rfl rfl rfl rfl rfl rfl ?_ | refine wl_loadBx 7 Tryz.hT rfl rfl rfl rfl rfl rfl rfl rfl ?_)
    refine wl_call1 rfl rfl rfl rfl rfl rfl (by kernel_rfl) (fun W hp => gapF_gives f g sf sg t2 (z2.mono (by decide)) W (hv.hp hp) (ht.hp hp)) ?_
    iterate 5 refine wl_pure Tryz.hT rfl rfl rfl ?_
    refine wl_nil ?_
    repeat (first | refine zA ?_ | refine zB ?_ | refine zC ?_ | refine zD ?_ | refine zE ?_ | refine zF ?_ | refine zG ?_ | refine zH ?_ | refine zI ?_ | refine zJ ?_ | refine zK ?_ | refine zL ?_ | refine zM rfl ?_ | refine zN ?_ | refine zO ?_ | refine zP ?_ | refine zQ ?_ | refine zR rfl ?_ | refine zS rfl ?_ | refine zT Tryz.mixed (by kernel_rfl) ?_)
    iterate 2 refine wl_pure Tryz.hT rfl rfl rfl ?_
    refine wl_call1 rfl rfl rfl rfl rfl rfl (by kernel_rfl) (fun W hp => containsQ_gives 24 [selfP b19, selfP b20] (by kernel_rfl) (fun t => decide (t1 ≤ t ∧ t ≤ t2)) (eqL f g) W p cap (by omega) (hS 4 rfl hp)
      (fun t ht1 W' hb => btw_gives b19 b20 t1 t2 t (sz2 z1 (hsz t ht1) (by decide)) (sz2 (hsz t ht1) z2 (by decide)) W' ((RowAt.of_bx hp 5 rfl rfl).below (Nat.le_refl _) hb) ((RowAt.of_bx hp 6 rfl rfl).below (Nat.le_refl _) hb) ((hv.hp hp).below hb) ((ht.hp hp).below hb))) ?_
    refine wl_pure Tryz.hT rfl rfl rfl ?_
    refine wl_nil ?_
    repeat (first | refine zA ?_ | refine zB ?_ | refine zC ?_ | refine zD ?_ | refine zE ?_ | refine zF ?_ | refine zG ?_ | refine zH ?_ | refine zI ?_ | refine zJ ?_ | refine zK ?_ | refine zL ?_ | refine zM rfl ?_ | refine zN ?_ | refine zO ?_ | refine zP ?_ | refine zQ ?_ | refine zR rfl ?_ | refine zS rfl ?_ | refine zT Tryz.mixed (by kernel_rfl) ?_)
    iterate 2 refine wl_pure Tryz.hT rfl rfl rfl ?_
    (first | refine wl_pure Tryz.hT rfl rfl rfl ?_ | refine wl_skip rfl rfl ?_)
    iterate 2 refine wl_pure Tryz.hT rfl rfl rfl ?_
    (first | refine wl_pure Tryz.hT rfl rfl rfl ?_ | refine wl_skip rfl rfl ?_)
    by_cases hbt : (eqL f g).any (fun t => decide (t1 ≤ t ∧ t ≤ t2)) = true
    · refine wl_upd 117 (.bool true) rfl (congrArg Value.bool hbt) ?_
      (first | refine wl_pure Tryz.hT rfl rfl rfl ?_ | refine wl_skip rfl rfl ?_)
      (first | refine wl_pure Tryz.hT rfl rfl rfl ?_ | refine wl_skip rfl rfl ?_)
      (first | refine wl_pure Tryz.hT rfl rfl rfl ?_ | refine wl_skip rfl rfl ?_)
      (first | refine wl_pure Tryz.hT rfl rfl rfl ?_ | refine wl_skip rfl rfl ?_)
      (first | refine wl_pure Tryz.hT rfl rfl rfl ?_ | refine wl_skip rfl rfl ?_)
      iterate 2 refine wl_pure Tryz.hT rfl rfl rfl ?_
      refine wl_call1 rfl rfl rfl rfl rfl rfl (by kernel_rfl) (fun W hp => awakeF_gives W (hv.hp hp) (ht.hp hp)) ?_
      iterate 2 refine wl_pure Tryz.hT rfl rfl rfl ?_
      refine wl_nil ?_
      repeat (first | refine zA ?_ | refine zB ?_ | refine zC ?_ | refine zD ?_ | refine zE ?_ | refine zF ?_ | refine zG ?_ | refine zH ?_ | refine zI ?_ | refine zJ ?_ | refine zK ?_ | refine zL ?_ | refine zM rfl ?_ | refine zN ?_ | refine zO ?_ | refine zP ?_ | refine zQ ?_ | refine zR rfl ?_ | refine zS rfl ?_ | refine zT Tryz.mixed (by kernel_rfl) ?_)
      exact ne_ret1 Tryz.hT rfl (.tmp rfl) () rfl trivial fun W _ => NewBx.nil _ _
    · have hlaw := meets_law f g hle fun t ht1 hin => hbt (List.any_eq_true.2 ⟨t, ht1, decide_eq_true hin⟩)
      refine wl_upd 117 (.bool false) rfl (congrArg Value.bool (by simpa using hbt)) ?_
      (first | refine wl_pure Tryz.hT rfl rfl rfl ?_ | refine wl_skip rfl rfl ?_)
      (first | refine wl_pure Tryz.hT rfl rfl rfl ?_ | refine wl_skip rfl rfl ?_)
      (first | refine wl_pure Tryz.hT rfl rfl rfl ?_ | refine wl_skip rfl rfl ?_)
      (first | refine wl_pure Tryz.hT rfl rfl rfl ?_ | refine wl_skip rfl rfl ?_)
      refine wl_upd 121 (.bool true) rfl (congrArg Value.bool (by rw [hlaw]; simp)) ?_
      (first | refine wl_pure Tryz.hT rfl rfl rfl ?_ | refine wl_skip rfl rfl ?_)
      iterate 2 refine wl_pure Tryz.hT rfl rfl rfl ?_
      refine wl_call1 rfl rfl rfl rfl rfl rfl (by kernel_rfl) (fun W hp => awakeF_gives W (hv.hp hp) (ht.hp hp)) ?_
      iterate 2 refine wl_pure Tryz.hT rfl rfl rfl ?_
      refine wl_nil ?_
      repeat (first | refine zA ?_ | refine zB ?_ | refine zC ?_ | refine zD ?_ | refine zE ?_ | refine zF ?_ | refine zG ?_ | refine zH ?_ | refine zI ?_ | refine zJ ?_ | refine zK ?_ | refine zL ?_ | refine zM rfl ?_ | refine zN ?_ | refine zO ?_ | refine zP ?_ | refine zQ ?_ | refine zR rfl ?_ | refine zS rfl ?_ | refine zT Tryz.mixed (by kernel_rfl) ?_)
      exact ne_ret1 Tryz.hT rfl (.tmp rfl) () rfl trivial fun W _ => NewBx.nil _ _
end Go.Proofs.YteaiopkopifijaaGreatDoor
namespace Go.Proofs.YteaiopkopifijaaGreatDoor
open Go Go.RowKit Go.Am Go.ChangeShapes Go.WideShapes Go.Deep Go.ChangeAt
set_option maxRecDepth 100000
theorem cSm : Tryz.prog.cellsOf 23 = 6 := by kernel_rfl
theorem cBl : Tryz.prog.cellsOf 4 = 1 := by kernel_rfl
theorem cU8 : Tryz.prog.cellsOf 5 = 1 := by kernel_rfl
section
variable {H : Type} {enc : TypeId × Value → H} {w : World} {base : Nat} {spare : Nat → Bool} {held : Bool} {v : Value} {d : DataW H} {ps : List MemPlace}
theorem open_bl {fuel : Nat} {u : Value} {x : DataW H × List MemPlace} (h : DataW.trod enc Tryz.prog w base spare held fuel 4 [u] = some x) : ∃ z : Bool, u = .bool z := by
  obtain ⟨z, e, _⟩ := DataW.trod_bool Tryz.underlying4 h
  exact ⟨z, by simpa using e⟩
theorem open_u8 {fuel : Nat} {u : Value} {x : DataW H × List MemPlace} (h : DataW.trod enc Tryz.prog w base spare held fuel 5 [u] = some x) : ∃ z : Nat, u = .int .u8 (z : Nat) ∧ z < 256 := by
  obtain ⟨z, e, _, hw⟩ := DataW.trod_int Tryz.underlying5 h
  have hr : 0 ≤ z ∧ z ≤ 255 := by simpa [Lit.wf, IntKind.min, IntKind.max, IntKind.signed, IntKind.bits] using hw
  obtain ⟨n, rfl⟩ : ∃ n : Nat, z = n := ⟨z.toNat, by omega⟩
  exact ⟨n, by simpa using e, by omega⟩
theorem open_small {r : Reach} {b0 : Nat} (hv : Value.okWide Tryz.prog w r b0 23 v) (h : DataW.Trod enc Tryz.prog w base spare held 23 v d ps) :
    ∃ x : SmP, v = smV x ∧ x.OK := by
  obtain ⟨cs, rfl, hc⟩ := okWide_struct Tryz.underlying23 hv
  obtain ⟨fuel, hf⟩ := h
  obtain ⟨xs, m, rfl, hx, hl, hn, hg⟩ := DataW.trod_struct Tryz.underlying23 hf
  rw [cSm] at hc
  obtain ⟨x0, x1, x2, x3, x4, x5, rfl⟩ : ∃ x0 x1 x2 x3 x4 x5, xs = [x0, x1, x2, x3, x4, x5] := by
    match xs, hn with
    | [a, b, c, d, e, f], _ => exact ⟨a, b, c, d, e, f, rfl⟩
  obtain ⟨l⟩ := cs
  match l, hc with
  | [v0, v1, v2, v3, v4, v5], _ =>
    have h0 : DataW.trod enc Tryz.prog w base spare held m 4 (List.take (Tryz.prog.cellsOf 4) [v0, v1, v2, v3, v4, v5]) = some x0 := hg 0 _ rfl
    have h1 : DataW.trod enc Tryz.prog w base spare held m 4 (List.take (Tryz.prog.cellsOf 4) [v1, v2, v3, v4, v5]) = some x1 := hg 1 _ rfl
    have h2 : DataW.trod enc Tryz.prog w base spare held m 5 (List.take (Tryz.prog.cellsOf 5) [v2, v3, v4, v5]) = some x2 := hg 2 _ rfl
    have h3 : DataW.trod enc Tryz.prog w base spare held m 5 (List.take (Tryz.prog.cellsOf 5) [v3, v4, v5]) = some x3 := hg 3 _ rfl
    have h4 : DataW.trod enc Tryz.prog w base spare held m 5 (List.take (Tryz.prog.cellsOf 5) [v4, v5]) = some x4 := hg 4 _ rfl
    have h5 : DataW.trod enc Tryz.prog w base spare held m 5 (List.take (Tryz.prog.cellsOf 5) [v5]) = some x5 := hg 5 _ rfl
    rw [cBl] at h0 h1
    rw [cU8] at h2 h3 h4 h5
    obtain ⟨a, rfl⟩ := open_bl h0
    obtain ⟨b, rfl⟩ := open_bl h1
    obtain ⟨p, rfl, hp⟩ := open_u8 h2
    obtain ⟨n, rfl, hn⟩ := open_u8 h3
    obtain ⟨d, rfl, hd⟩ := open_u8 h4
    obtain ⟨s, rfl, hs⟩ := open_u8 h5
    exact ⟨⟨a, b, p, n, d, s⟩, rfl, ⟨hp, hn, hd, hs⟩⟩
end
theorem own : ownKnob Tryz.prog.godebug = none := by kernel_rfl
theorem laidOut : laidOutB Tryz.prog = true := by kernel_rfl
/-- The list of the package variables, the same for every law over fronts. -/
noncomputable abbrev laidL : List (String × DataW Unit) := Rows.frontSpeedsRow.laid
theorem laid_plain : (laidL.all fun x => x.2.handleName?.isNone) = true := by kernel_rfl
theorem tab_of_laid {W : World} (h : laidMetH Tryz.prog laidL W) : TabP W := by
  rw [MakeChecks.laidMetH_plain _ _ _ laid_plain] at h
  exact Lib.tabIs_of_head (g := 1) (t := 305) (e := 197) (n := 20) (by kernel_rfl) (by kernel_rfl) (by kernel_rfl) (by kernel_rfl) (by kernel_rfl) (by kernel_rfl) h.tail.tail
theorem max_of {W : World} (hS : W.ShapedOpen Tryz.prog) : MaxP W :=
  cell_of_shapedOpen_int (g := 4) (t := 3) (zero := #[.int .i64 0]) hS (of_decide_eq_true (by kernel_rfl)) (by kernel_rfl) rfl (by kernel_rfl) (by kernel_rfl) Tryz.underlying3
noncomputable def witW (os : Os) : World := World.laidAll Tryz.prog os laidL
theorem wit_laid (os : Os) (args : Array Value) : laidMetH Tryz.prog laidL ((witW os).forCall (fun _ _ => 0) ⟨#[], args, []⟩).memory := by
  rw [MakeChecks.laidMetH_plain _ _ _ laid_plain]
  exact laidMet_laidAll _ (by kernel_rfl) (by kernel_rfl)
theorem wit_shaped (os : Os) (args : Array Value) : ((witW os).forCall (fun _ _ => 0) ⟨#[], args, []⟩).Shaped Tryz.prog :=
  World.shaped_of_ZipB (by kernel_rfl) (by kernel_rfl)
/-- The witness of a row: its arguments have their types' forms, and the row's side holds. -/
theorem wit_row {H : Type} {enc : TypeId × Value → H} (os : Os) {f : FuncId} {fn : Func} {s : OpenSpec} {conds : List PathCond} (args : Array Value)
    (hok : Input.okWideB Tryz.prog ((witW os).forCall (fun _ _ => 0) ⟨#[], args, []⟩) f ⟨#[], args, []⟩ = true)
    (hrow : s.preRow enc Tryz.prog fn conds false laidL ((witW os).forCall (fun _ _ => 0) ⟨#[], args, []⟩).memory args) :
    ∃ (w : World) (tape : Tape) (i : Input), w.os = os ∧ (w.forCall tape i).Shaped Tryz.prog ∧ i.vars = [] ∧ Input.okWide Tryz.prog (w.forCall tape i) .any w.heap.size f i ∧
      s.preRow enc Tryz.prog fn conds false laidL (w.forCall tape i).memory i.args ∧ ({} : Assume).holds Tryz.prog (lone (Frame.enter Tryz.prog f i.args .normal) [] (w.forCall tape i)) :=
  ⟨witW os, fun _ _ => 0, ⟨#[], args, []⟩, World.laidAll_os _ _ _, wit_shaped os args, (Input.okWide_of_okWideB (base := 0) hok).1, (Input.okWide_of_okWideB hok).2, hrow, by
    simp only [Assume.holds]
    exact ⟨by simp, by simp, by simp, by simp, by simp, by simp⟩⟩
end Go.Proofs.YteaiopkopifijaaGreatDoor
