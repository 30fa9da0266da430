/-
  Pieces of strings at this program: Split, Cut, Delete, Atoi; package variables that they read.
-/
import Derived.Test.YtnpfkmbcejgnjaaGreatDoorBuilder
import Derived.Test.YtnpfkmbcejgnjaaGreatDoorSideMath
import Derived.Sort.EncStr
import Derived.Sort.Grow
import Derived.Lib.AtoiAllCases
namespace Go.Proofs.YtnpfkmbcejgnjaaGreatDoor
open Go Go.RowKit Go.Am Go.Lib
set_option maxRecDepth 10000
abbrev ss (ws : List (List UInt8)) : List Value := ws.map str
/-- Package variables of the library that strings' functions read. -/
structure VarsP (W : World) : Prop where
  max : ∃ m, W.cell? ⟨0, 0, none⟩ = some (.int .i64 m)
  syn : ∃ ev, W.cell? ⟨2, 0, none⟩ = some ev ∧ (ev = .nilIface ∨ ∃ te pe, ev = .iface te pe)
  rng : ∃ ev, W.cell? ⟨3, 0, none⟩ = some ev ∧ (ev = .nilIface ∨ ∃ te pe, ev = .iface te pe)
theorem cell_below {W0 W : World} {b : Nat} {v : Value} (h : W0.cell? ⟨b, 0, none⟩ = some v) (hb : Below W0.heap.size W0 W) : W.cell? ⟨b, 0, none⟩ = some v := by
  have hlt : b < W0.heap.size := by
    obtain ⟨c, e, fr, h1, _⟩ := Sort.cells_of_cell? h
    exact (Array.getElem?_eq_some_iff.1 h1).1
  have e := hb.block b hlt
  unfold World.cell? at h ⊢
  simp only at h ⊢
  rw [e]
  exact h
theorem VarsP.below {W0 W : World} (h : VarsP W0) (hb : Below W0.heap.size W0 W) : VarsP W := by
  obtain ⟨⟨m, h1⟩, ⟨e1, h2, h3⟩, e2, h4, h5⟩ := h
  exact ⟨⟨m, cell_below h1 hb⟩, ⟨e1, cell_below h2 hb, h3⟩, e2, cell_below h4 hb, h5⟩
theorem VarsP.hp {W0 W : World} {bxs : List Bx} (h : VarsP W0) (hp : Hp W0 bxs W) : VarsP W := h.below hp.below
theorem map_strings : ∀ {xs : List ByteArray} {ws : List (List UInt8)}, xs.map (·.data.toList) = ws → xs.map Value.string = ss ws
  | [], _, h => by subst h; rfl
  | x :: xs, _, h => by
    subst h
    show Value.string x :: xs.map Value.string = str x.data.toList :: ss (xs.map (·.data.toList))
    rw [map_strings rfl]
theorem split_gives (W : World) (l : List UInt8) (hl : l.length ≤ 1000000) (hv : VarsP W) :
    CallsR Tryz.prog 126 #[str l, str [32]] W (fun g : Nat => .slice (some ⟨g, 0, none⟩) (splt 32 l).length (splt 32 l).length) (fun _ => True) (fun g => [⟨g, 9, ss (splt 32 l) ++ [], true, none⟩]) := by
  obtain ⟨m, hm⟩ := hv.max
  have hsz : (⟨l.toArray⟩ : ByteArray).size = l.length := by show l.toArray.size = _; simp
  have hd : (splitB ⟨#[32]⟩ 0 (countB ⟨l.toArray⟩ ⟨#[32]⟩) ⟨l.toArray⟩).map (·.data.toList) = splt 32 l := by
    rw [splitB_data]
    exact splitK_splt _ _ (Nat.le_refl _)
  have hlen : countB ⟨l.toArray⟩ ⟨#[32]⟩ + 1 = (splt 32 l).length := by
    rw [← hd, List.length_map, splitB_all ⟨#[32]⟩ (by decide) 0 _ _ rfl]
  have h := Tryz.strings_Split ⟨l.toArray⟩ ⟨#[32]⟩ m W (by rw [hsz]; omega) hm (by decide)
  rw [hlen, map_strings hd] at h
  refine ⟨h.mono ?_⟩
  rintro e W' ⟨rfl, rfl⟩
  refine ⟨W.heap.size, rfl, trivial, (Below.refl _ _).alloc (Nat.le_refl _) _, Own.one_sole rfl ⟨?_, Nat.le_refl _⟩⟩
  show (W.heap.push _)[W.heap.size]? = _
  rw [Array.getElem?_push_size]
  show some (Obj.cells (ss (splt 32 l)).toArray 9 (0, 0)) = some (Obj.cells (ss (splt 32 l) ++ []).toArray 9 (0, 0))
  rw [List.append_nil]
theorem cut_gives (W : World) (l : List UInt8) (hl : l.length ≤ 1000000) (hv : VarsP W) :
    CallsR Tryz.prog 82 #[str l, str [10]] W (fun _ : Unit => .tuple #[str (cut l [10]).1, str (cut l [10]).2.1, .bool (cut l [10]).2.2]) (fun _ => True) (fun _ => []) := by
  obtain ⟨m, hm⟩ := hv.max
  have hsz : (⟨l.toArray⟩ : ByteArray).size = l.length := by show l.toArray.size = _; simp
  refine CallsR.of1 ((Tryz.strings_Cut ⟨l.toArray⟩ ⟨#[10]⟩ m W (by rw [hsz]; omega) hm).mono ?_)
  rintro e W' ⟨rfl, n, rfl⟩
  refine ⟨rfl, ?_⟩
  have := below_grow W n #[]
  rwa [Sort.grow_empty] at this
/-! ### A row of strings changed in its place -/
theorem ss_get {l : List (List UInt8)} {j : Nat} (h : j < l.length) (junk : List Value) : (ss l ++ junk)[j]? = some (str l.toArray[j]!) := by
  have hb : l.toArray[j]! = l[j] := by
    rw [getElem!_pos l.toArray j (by simpa using h)]; simp
  rw [List.getElem?_append_left (by simpa using h), List.getElem?_map, List.getElem?_eq_getElem h, hb]; rfl
theorem holds_strs {W : World} {g : Nat} {zs : List (List UInt8)} {junk : List Value} {ty : TypeId} (h : W.heap[g]? = some (.cells (ss zs ++ junk).toArray ty (0, 0))) : Sort.Holds encStr W g 0 zs.toArray := fun j hj => by
  have hj' : j < zs.length := by simpa using hj
  have h1 := ss_get hj' junk
  constructor
  · simp only [World.cell?, h, Nat.zero_add]
    rw [List.getElem?_toArray]; exact h1
  · simp [World.frozen?, h]
theorem putCells_strs {zs zs' : List (List UInt8)} (hl : zs'.length = zs.length) (junk : List Value) : Sort.putCells encStr 0 zs'.toArray (ss zs ++ junk).toArray = (ss zs' ++ junk).toArray := by
  apply Array.ext_getElem?
  intro k
  simp only [Sort.putCells, Array.getElem?_mapIdx, List.getElem?_toArray, List.size_toArray, Nat.zero_add, Nat.sub_zero, Nat.zero_le, true_and]
  by_cases hk : k < zs.length
  · rw [ss_get hk, ss_get (show k < zs'.length by omega), Option.map_some, if_pos (by omega)]
  · rw [List.getElem?_append_right (by simp; omega), List.getElem?_append_right (by simp; omega)]
    simp only [List.length_map, hl]
    cases junk[k - zs.length]? with
    | none => rfl
    | some y => rw [Option.map_some, if_neg (by omega)]
theorem strs_near {W : World} {g : Nat} {zs zs' : List (List UInt8)} {junk : List Value} {ty : TypeId} (h : W.heap[g]? = some (.cells (ss zs ++ junk).toArray ty (0, 0))) (hl : zs'.length = zs.length) (n : Nat) :
    Near W (Sort.putRow encStr (Sort.ahead W n) g 0 zs'.toArray) g g (.cells (ss zs' ++ junk).toArray ty (0, 0)) := by
  refine ⟨rfl, rfl, rfl, ?_, ?_, .inl rfl, fun x hx _ => ?_⟩
  · show W.heap.size ≤ (W.heap.modify g _).size
    simp
  · show (W.heap.modify g (Sort.onCells (Sort.putCells encStr 0 zs'.toArray)))[g]? = _
    rw [Array.getElem?_modify, if_pos rfl, h, Option.map_some]
    show some (Obj.cells (Sort.putCells _ _ _ _) _ _) = _
    rw [putCells_strs hl]
  · show (W.heap.modify g (Sort.onCells (Sort.putCells encStr 0 zs'.toArray)))[x]? = _
    rw [Array.getElem?_modify, if_neg (fun e => hx e.symm)]
theorem delete_gives {W : World} {g : Nat} {ws : List (List UInt8)} {ty : TypeId} (h5 : ws.length = 5) (h : W.heap[g]? = some (.cells (ss ws ++ []).toArray ty (0, 0))) :
    Calls Tryz.prog 127 #[.slice (some ⟨g, 0, none⟩) 5 5, .int .i64 2, .int .i64 3] W fun e W' => ∃ x : Unit, e = .returned ((fun _ => .slice (some ⟨g, 0, none⟩) 4 5) x) ∧ (fun _ => True) x ∧
      Near W W' g ((fun _ => g) x) ((fun _ => .cells (ss (ws.take 2 ++ ws.drop 3) ++ [str []]).toArray ty (0, 0)) x) := by
  have h1 := Tryz.slices_Delete_string g 0 5 2 3 ws W (holds_strs h) (by omega) (by decide) (by decide) (by omega)
  rw [h5] at h1
  refine h1.mono ?_
  rintro e W' ⟨rfl, n, rfl⟩
  refine ⟨(), rfl, trivial, ?_⟩
  have h2 := strs_near (zs' := ws.take 2 ++ ws.drop 3 ++ List.replicate (3 - 2) []) h (by rw [List.length_append, List.length_append, List.length_take, List.length_drop, List.length_replicate]; omega) n
  have e : ss (ws.take 2 ++ ws.drop 3 ++ List.replicate (3 - 2) []) ++ [] = ss (ws.take 2 ++ ws.drop 3) ++ [str []] := by
    rw [List.append_nil]
    exact List.map_append
  rw [e] at h2
  exact h2
/-- A string of a row. -/
theorem ss_at {l : List (List UInt8)} {g : Nat} {e : TypeId} {junk : List Value} {W0 W : World} {bxs : List Bx} (hp : Hp W0 bxs W) (k : Nat) (hk : nth bxs k = some ⟨g, e, ss l ++ junk, true, none⟩) {i : Nat} (hi : i < l.length) : RowAt W g (0 + i * 1) [str (l.getD i [])] := by
  have h := RowAt.of_bx hp k hk rfl
  refine ⟨h.lt, fun j u hu => ?_⟩
  have hj : j = 0 := by have := (List.getElem?_eq_some_iff.1 hu).1; simp at this; omega
  subst hj
  have := h.get (i * 1 + 0) u (by
    show (ss l ++ junk)[i * 1 + 0]? = some u
    rw [show i * 1 + 0 = i by omega, List.getElem?_append_left (by simpa using hi), List.getElem?_map, List.getElem?_eq_getElem hi, ← hu, List.getD_eq_getElem?_getD, List.getElem?_eq_getElem hi]; rfl)
  rw [Nat.zero_add] at this ⊢
  exact this
theorem atoi_any (W : World) (w : List UInt8) (hw : w.length ≤ 1000000) (hv : VarsP W) :
    CallsR Tryz.prog 128 #[str w] W (fun x : Int × Value => .tuple #[.int .i64 x.1, x.2]) (fun x => (∃ n, atoiAll w = .ok n ∧ x = (n, .nilIface)) ∨ ((∀ n, atoiAll w ≠ .ok n) ∧ ∃ a, x.2 = .iface 228 (.pointer (some a)))) (fun _ => []) := by
  have hsz : (⟨w.toArray⟩ : ByteArray).size = w.length := by show w.toArray.size = _; simp
  cases h : atoiAll w
  case ok n =>
    refine ⟨(Tryz.strconv_Atoi_ok ⟨w.toArray⟩ (by rw [hsz]; omega) n (by simpa using h) W).mono ?_⟩
    rintro e W' ⟨rfl, hw'⟩
    refine ⟨(n, .nilIface), rfl, .inl ⟨n, rfl, rfl⟩, ?_, NewBx.nil _ _⟩
    rcases hw' with rfl | ⟨t, rfl⟩
    · exact Below.refl _ _
    · exact bytesWorld_below _ _ _
  rotate_left
  case range =>
    obtain ⟨ev, h1, h2⟩ := hv.rng
    refine ⟨(Tryz.strconv_Atoi_range ⟨w.toArray⟩ (by rw [hsz]; omega) (by simpa using h) ev W h1 h2).mono ?_⟩
    rintro e W' ⟨N, rfl, _, _, hb⟩
    exact ⟨(_, .iface 228 (.pointer (some ⟨N, 0, none⟩))), rfl, .inr ⟨fun n hn => by (cases hn), ⟨N, 0, none⟩, rfl⟩, hb, NewBx.nil _ _⟩
  · obtain ⟨ev, h1, h2⟩ := hv.syn
    refine ⟨(Tryz.strconv_Atoi_syntax ⟨w.toArray⟩ (by rw [hsz]; omega) (by simpa using h) ev W h1 h2).mono ?_⟩
    rintro e W' ⟨N, rfl, _, _, hb⟩
    exact ⟨(0, .iface 228 (.pointer (some ⟨N, 0, none⟩))), rfl, .inr ⟨fun n hn => by (cases hn), ⟨N, 0, none⟩, rfl⟩, hb, NewBx.nil _ _⟩
section
variable {P : Program} {N : Nat} {ops : List Oper} {o : Oper} {rest : List Oper} {env : Env} {A : World → Prop} {A2 : World → Prop} {R : (Nat → Value) → World → Prop}
theorem neqNil_run {ρ : Operand → Value} {t u : TypeId} {x : Operand} {v : Value} {b : Bool} {ms : Array (String × TypeId)} (ht : P.underlying t = some (.interface ms)) (ho : o.op = .binOp .neq t x (.const .nilIface) u) (hx : ρ x = v) (hc : ρ (.const .nilIface) = .nilIface)
    (hv : (v = .nilIface ∧ b = false) ∨ ((∃ te a, v = .iface te (.pointer (some a))) ∧ b = true)) (W : World) : (execOp ρ o).run P W = .ok (.value (.bool b)) W := by
  have h1 : (binOp .neq t v .nilIface).run P W = .ok (.bool b) W := by
    rcases hv with ⟨rfl, rfl⟩ | ⟨⟨te, a, rfl⟩, rfl⟩
    · have h : ∀ d : Nat, (Op.equalIn (d + 1) t .nilIface .nilIface).run P W = .ok true W := fun d => by
        simp [Op.equalIn, run_underlying ht]
      simp only [binOp]
      simp [Op.equal, Op.maxDepth, h 9999]
    · have h : ∀ d : Nat, (Op.equalIn (d + 1) t (.iface te (.pointer (some a))) .nilIface).run P W = .ok false W := fun d => by
        simp [Op.equalIn, run_underlying ht]
      simp only [binOp]
      simp [Op.equal, Op.maxDepth, h 9999]
  have h2 : (eqGuard .neq t x (.const .nilIface) v .nilIface).run P W = .ok () W := by
    rcases hv with ⟨rfl, rfl⟩ | ⟨⟨te, a, rfl⟩, rfl⟩ <;> simp [eqGuard]
  simp only [execOp, ho, hx, hc, Sem.run_bind, h2, h1, Result.andThen_ok, Sem.run_pure]
end
end Go.Proofs.YtnpfkmbcejgnjaaGreatDoor
