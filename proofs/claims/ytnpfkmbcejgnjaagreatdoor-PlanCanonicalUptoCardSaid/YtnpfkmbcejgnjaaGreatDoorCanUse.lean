/-
  What the law of canonical plans needs of memory: rings' room, rows of rings turned round.
-/
import Derived.Test.YtnpfkmbcejgnjaaGreatDoorCanMem
import Derived.Test.YtnpfkmbcejgnjaaGreatDoorRevRg
import Derived.Test.YtnpfkmbcejgnjaaGreatDoorOpen
import Derived.Test.YtnpfkmbcejgnjaaGreatDoorConcatQ
namespace Go.Proofs.YtnpfkmbcejgnjaaGreatDoor
open Go Go.RowKit Go.Am Go.ChangeShapes Go.WideShapes Go.Deep
theorem Tryz.vec68 : Am.VecTy Tryz.prog 68 4 1 1 (.bool false) := ⟨by kernel_rfl, by kernel_rfl, by kernel_rfl, by kernel_rfl, rfl, by decide⟩
/-- Each ring of a plan's row has room for its sides. -/
def RoomP (W : World) (p : Option Addr) (n : Nat) : Prop := ∀ b off, p = some ⟨b, off, none⟩ → ∀ k q m c, k < n → RowAt W b (off + k * 1) [slv q m c] → m ≤ c
section
variable {H : Type} {enc : TypeId × Value → H} {w : World} {base : Nat} {spare : Nat → Bool} {held : Bool}
theorem ring_room {fuel : Nat} {cs : List Value} {x : DataW H × List MemPlace} (h : DataW.trod enc Tryz.prog w base spare held fuel 27 cs = some x) {q : Option Addr} {m c : Nat} (e : cs = [slv q m c]) : m ≤ c := by
  rcases open_slice Tryz.underlying27 h with ⟨rfl, rfl⟩ | ⟨a, len, cap', m', n', D, Pl, rfl, _, hl, _, hm, rfl, hx⟩
  · injection e with e _
    injection e with _ e1 e2
    omega
  · injection e with e _
    injection e with _ e1 e2
    omega
theorem plan_room {p : Option Addr} {n cap : Nat} {d : DataW H} {ps : List MemPlace} (h : DataW.Trod enc Tryz.prog w base spare held 24 (planV p n cap) d ps) : RoomP w p n := by
  obtain ⟨fuel, hf⟩ := h
  obtain ⟨xs, m, rfl, hx, hl, hn, hg⟩ := DataW.trod_struct Tryz.underlying24 hf
  obtain ⟨y0, rfl⟩ : ∃ y, xs = [y] := by
    match xs, hn with
    | [y], _ => exact ⟨y, rfl⟩
  have h0 : DataW.trod enc Tryz.prog w base spare held m 22 (List.take (Tryz.prog.cellsOf 22) (List.drop 0 (planV p n cap).cells.toList)) = some y0 := hg 0 _ rfl
  rw [c22] at h0
  have h1 : DataW.trod enc Tryz.prog w base spare held m 22 [slv p n cap] = some y0 := h0
  rintro b off rfl k q mm c hk hrow
  rcases open_slice Tryz.underlying22 h1 with ⟨e, _⟩ | ⟨a, len, cap', m', n', D, Pl, e, _, hl', _, hm, rfl, hxx⟩
  · injection e with e _
    injection e with e1 e2 e3
    omega
  · injection e with e _
    injection e with e1 e2 e3
    have e1 := Option.some.inj e1
    subst e1; subst e2
    have hlm : n ≤ m' := by rw [hm]; split <;> omega
    obtain ⟨cs', h2, h3⟩ := hxx k (by omega)
    rw [c27] at h2
    have hs := open_row h2 (by decide)
    rw [add_off rfl] at hs
    obtain ⟨_, hl2, _⟩ := World.cells?_some h2
    match cs', hl2 with
    | [v], _ =>
      have h4 := hs.2.get 0 v rfl
      have h5 := hrow.get 0 (slv q mm c) rfl
      have h6 : some (slv q mm c) = some v := by rw [← h4, ← h5]
      exact ring_room h3 (by rw [Option.some.inj h6])
end
def trip (x : Vec × List Sd) : Trip := (x.1.p.map fun g => ⟨g, 0, none⟩, x.2.length, match x.1.p with | none => 0 | some _ => x.1.cap)
theorem rowCells_trip {mk : Made} {rs : List (List Sd)} (h : MadeOK mk rs) : rowCells mk = slC (mk.map trip) := by
  unfold rowCells slC
  rw [List.map_map]
  refine List.map_congr_left fun x hx => ?_
  exact Vec.val_eq (h.ok x hx)
theorem tail_rev {mk : Made} (h : mk ≠ []) : ∃ x l, mk = x :: l := by
  cases mk with
  | nil => exact absurd rfl h
  | cons x l => exact ⟨x, l, rfl⟩
theorem MadeOK.tail {x : Vec × List Sd} {l : Made} {rs : List (List Sd)} (h : MadeOK (x :: l) rs) : MadeOK (x :: l.reverse) (rs.take 1 ++ (rs.drop 1).reverse) := by
  refine ⟨?_, fun p hp => h.ok p ?_⟩
  · rw [← h.eq]
    simp
  · rcases List.mem_cons.1 hp with rfl | hp
    · exact List.mem_cons_self ..
    · exact List.mem_cons_of_mem _ (List.mem_reverse.1 hp)
theorem rings_at {mk : Made} {rs : List (List Sd)} (h : MadeOK mk rs) {g cp n : Nat} {jk : List Value} (hn : rs.length = n) (hV : (⟨some g, cp, jk⟩ : Vec).OK 1 n (rowCells mk)) {W0 W : World} {bxs : List Bx} (hp : Hp W0 bxs W) (k i : Nat) (hk : nth bxs k = some ⟨g, 27, rowCells mk ++ jk, true, none⟩) (hi : nth bxs i = some (mkB mk)) : RingsP W (some ⟨g, 0, none⟩) rs := by
  subst hn
  obtain ⟨p, cap, e, f⟩ := made_rings h hV
  have e' : Value.slice (some ⟨g, 0, none⟩) rs.length cp = slv p rs.length cap := e
  injection e' with e1 _ _
  rw [e1]
  exact f hp k i hk hi
section
variable {r : Option Nat} {n : Nat} {W0 : World} {N : Nat} {D : List Deferred} {ops : List Oper} {Q : Exit → Act → World → Prop} {o : Oper} {rest : List Oper} {env : Env} {bxs : List Bx}
/-- All rings but the first are turned round. -/
theorem wl_revTail (k : Nat) {c : Call} {f : Operand} {d g cp off m : Nat} {x : Vec × List Sd} {l : Made} {rs : List (List Sd)} {junk : List Value} (hmk : MadeOK (x :: l) rs)
    (hg : guardE ops N env o = some true) (hd : o.dst = some d) (ho : o.op = .call c) (hc : c.callee = .value f) (hf : evO N env f = some (.func (.func 40) #[] #[])) (ha : evArgs (evO N env) c.args.toList = some [.slice (some ⟨g, off, none⟩) (m - 1) (cp - 1)])
    (hk : nth bxs k = some ⟨g, 27, rowCells (x :: l) ++ junk, true, none⟩) (hm : m = l.length + 1) (hcp : m ≤ cp) (hoff : cp ≠ 1 → off = 1) (hoff0 : cp = 1 → off = 0) (hn : m < 4611686018427387904)
    (h : WL r n Tryz.prog N D ops Q rest ((d, .tuple #[]) :: env) (Hp W0 (bxs.set k ⟨g, 27, rowCells (x :: l.reverse) ++ junk, true, none⟩))) : WL r n Tryz.prog N D ops Q (o :: rest) env (Hp W0 bxs) := by
  have e1 : rowCells (x :: l) = slT (trip x) :: slC (l.map trip) := rowCells_trip hmk
  have e2 : rowCells (x :: l.reverse) = slT (trip x) :: slC (l.map trip).reverse := by
    rw [rowCells_trip hmk.tail, List.map_cons, List.map_reverse]
    rfl
  by_cases h1 : cp = 1
  · have hl : l = [] := List.length_eq_zero_iff.1 (by omega)
    subst hl
    exact wl_revring k [] [] (rowCells [x] ++ junk) (rowCells [x] ++ junk) hg hd ho hc hf ha hk (by show m - 1 = 0; omega) (hoff0 h1) rfl rfl (by decide) h
  · refine wl_revring k [slT (trip x)] (l.map trip) junk (rowCells (x :: l.reverse) ++ junk) hg hd ho hc hf ha hk (by rw [List.length_map]; omega) (hoff h1) (by rw [e1]; rfl) (by rw [e2]; rfl) (by rw [List.length_map]; omega) h
end
theorem ringAt_drop {W : World} {b o : Nat} {l : List Sd} (h : RingAt W b o l) (t : Nat) : RingAt W b (o + t * 7) (l.drop t) := ⟨fun i s hs => by
  rw [List.getElem?_drop] at hs
  have := h.get (t + i) s hs
  rw [show o + t * 7 + i * 7 = o + (t + i) * 7 by omega]
  exact this⟩
theorem ringAt_take {W : World} {b o : Nat} {l : List Sd} (h : RingAt W b o l) (t : Nat) : RingAt W b o (l.take t) := ⟨fun i s hs => by
  have hi : i < t := by
    have := (List.getElem?_eq_some_iff.1 hs).1
    rw [List.length_take] at this; omega
  rw [List.getElem?_take_of_lt hi] at hs
  exact h.get i s hs⟩
theorem concat2_gives (W : World) (g cap : Nat) (l : List Sd) (t : Nat) (ht : t ≤ l.length) (hn : l.length < 1099511627776) (b b' o o' c c' : Nat) (hrow : RowAt W g 0 [slv (some ⟨b, o, none⟩) (l.length - t) c, slv (some ⟨b', o', none⟩) t c']) (h1 : RingAt W b o (l.drop t)) (h2 : RingAt W b' o' (l.take t)) :
    CallsR Tryz.prog 39 #[slv (some ⟨g, 0, none⟩) 2 cap] W (fun V : Vec => V.val l.length) (fun V => V.OK 7 l.length (cellsOf (rot l t))) (fun V => [V.bx 42 (cellsOf (rot l t))]) := by
  have ef : [l.drop t, l.take t].flatten = rot l t := by simp [rot]
  have el : [l.drop t, l.take t].flatten.length = l.length := by rw [ef, rot_len]
  have hT : tot [l.drop t, l.take t] < 1099511627776 := by rw [← flat_len, el]; exact hn
  have h := concatQ_gives W g 0 cap [l.drop t, l.take t] (by show 2 < _; omega) hT fun k hk => by
    rcases (show k = 0 ∨ k = 1 by have : k < 2 := hk; omega) with rfl | rfl
    · refine ⟨b, o, c, ⟨hrow.lt, fun j u hu => ?_⟩, h1⟩
      have hj : j = 0 := by have := (List.getElem?_eq_some_iff.1 hu).1; simp at this; omega
      subst hj
      refine hrow.get 0 u ?_
      rw [← hu]
      show some (slv _ (l.length - t) c) = some (slv _ (l.drop t).length c)
      rw [List.length_drop]
    · refine ⟨b', o', c', ⟨hrow.lt, fun j u hu => ?_⟩, h2⟩
      have hj : j = 0 := by have := (List.getElem?_eq_some_iff.1 hu).1; simp at this; omega
      subst hj
      refine hrow.get 1 u ?_
      rw [← hu]
      show some (slv _ t c') = some (slv _ (l.take t).length c')
      rw [List.length_take, Nat.min_eq_left ht]
  rw [el, ef] at h
  exact h
/-! ### The numbers seen -/
abbrev cb (l : List Bool) : List Value := l.map Value.bool
def seenB (rs : List (List Sd)) (i : Nat) : List Bool := (List.range (tot rs)).map fun j : Nat => (List.range i).any fun k => decide ((numsOf rs).getD k 0 = (j : Int))
theorem seenB_len (rs : List (List Sd)) (i : Nat) : (seenB rs i).length = tot rs := by simp [seenB]
theorem seenB_zero (rs : List (List Sd)) : seenB rs 0 = List.replicate (tot rs) false := by
  apply List.ext_getElem?
  intro j
  unfold seenB
  rw [List.getElem?_map, List.getElem?_replicate]
  by_cases h : j < tot rs
  · rw [List.getElem?_range h, if_pos h]; rfl
  · rw [List.getElem?_eq_none (by simpa using h), if_neg h]; rfl
theorem seenB_at (rs : List (List Sd)) (i : Nat) {j : Nat} (hj : j < tot rs) : (seenB rs i).getD j false = (List.range i).any fun k => decide ((numsOf rs).getD k 0 = (j : Int)) := by
  rw [List.getD_eq_getElem?_getD, seenB, List.getElem?_map, List.getElem?_range hj]; rfl
theorem seenB_succ {rs : List (List Sd)} {i j : Nat} (hj : j < tot rs) (h : (numsOf rs).getD i 0 = (j : Int)) : (seenB rs i).set j true = seenB rs (i + 1) := by
  refine list_ext_D false (by rw [List.length_set, seenB_len, seenB_len]) fun k hk => ?_
  rw [List.length_set, seenB_len] at hk
  rw [setD false (by rw [seenB_len]; exact hj), seenB_at rs i hk, seenB_at rs (i + 1) hk, List.range_succ, List.any_append]
  by_cases e : k = j
  · subst e; rw [if_pos rfl]
    simp only [List.any_cons, List.any_nil, Bool.or_false, h, decide_true, Bool.or_true]
  · rw [if_neg e]
    have : decide ((numsOf rs).getD i 0 = (k : Int)) = false := decide_eq_false fun h' => e (by rw [h] at h'; omega)
    simp only [List.any_cons, List.any_nil, Bool.or_false, this]
/-- What the loop of the law reads at an old number. -/
theorem can_round {rs : List (List Sd)} {i : Nat} (hi : i < tot rs) : ∃ j, j < tot rs ∧ (numsOf rs).getD i 0 = (j : Int) ∧ (seenB rs i).getD j false = false ∧ sd (canR rs).flatten j = sd rs.flatten i := by
  obtain ⟨j, hj, h1, h2⟩ := numsOf_sur hi
  refine ⟨j, hj, h2, ?_, ?_⟩
  · rw [seenB_at rs i hj]
    refine Bool.eq_false_iff.2 fun h => ?_
    obtain ⟨k, hk, hk2⟩ := List.any_eq_true.1 h
    have hk := List.mem_range.1 hk
    have hk2 : (numsOf rs).getD k 0 = (j : Int) := by simpa using hk2
    obtain ⟨j', _, h3, h4⟩ := numsOf_sur (show k < tot rs by omega)
    rw [hk2] at h4
    have : j' = j := by omega
    subst this
    rw [h1] at h3
    have := Option.some.inj h3
    omega
  · rw [sd, canR_flat, List.getD_eq_getElem?_getD, List.getElem?_map, h1]
    show oldS rs (i : Int) = _
    unfold oldS sd
    rw [Int.toNat_natCast]
theorem can_own {c : List (List Sd)} (h : olds c = oldN 0 (tot c)) {i : Nat} (hi : i < tot c) : (numsOf c).getD i 0 = (i : Int) := by
  obtain ⟨j, hj, h1, h2⟩ := numsOf_sur hi
  rw [h] at h1
  unfold oldN at h1
  rw [List.getElem?_map, List.getElem?_range hj] at h1
  have h3 : ((0 + j : Nat) : Int) = (i : Int) := by simpa using h1
  rw [h2]; omega
theorem repL_cb (m : Nat) : repL (Value.bool false).cells.toList m = cb (List.replicate m false) := by
  induction m with
  | zero => rfl
  | succ m ih =>
    show [Value.bool false] ++ repL (Value.bool false).cells.toList m = _
    rw [ih, List.replicate_succ]; rfl
theorem set_bool (z : Bool) {L : List Bool} {j : Nat} (hj : j < L.length) : splice (cb L) (0 + j * 1) (Value.bool z).cells.toList = cb (L.set j z) := by
  rw [Nat.mul_one, Nat.zero_add]
  show splice _ j [Value.bool z] = _
  rw [splice_at1 _ _ _ (by rw [List.length_map]; omega)]
  exact (List.map_set ..).symm
/-- A flag of a row. -/
theorem cb_at {l : List Bool} {g : Nat} {e : TypeId} {W0 W : World} {bxs : List Bx} (hp : Hp W0 bxs W) (k : Nat) (hk : nth bxs k = some ⟨g, e, cb l, true, none⟩) {i : Nat} (hi : i < l.length) : RowAt W g (0 + i * 1) [.bool (l.getD i false)] := by
  have h := RowAt.of_bx hp k hk rfl
  refine ⟨h.lt, fun j u hu => ?_⟩
  have hj : j = 0 := by have := (List.getElem?_eq_some_iff.1 hu).1; simp at this; omega
  subst hj
  have := h.get (i * 1 + 0) u (by
    show (cb l)[i * 1 + 0]? = some u
    rw [show i * 1 + 0 = i by omega, List.getElem?_map, List.getElem?_eq_getElem hi, ← hu, List.getD_eq_getElem?_getD, List.getElem?_eq_getElem hi]; rfl)
  rw [Nat.zero_add] at this ⊢
  exact this
end Go.Proofs.YtnpfkmbcejgnjaaGreatDoor
