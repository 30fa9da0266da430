/-
  Lemmas that the theorem planMoves_upto_card needs (part 6 of 7).
-/
import Derived.Test.YtnpfkmbcejgnjaaGreatDoorMpe
import Derived.Sort.EncStr
import Derived.Lib.AtoiAllCases
import Derived.Laws.StructEq
namespace Go.Proofs.YtnpfkmbcejgnjaaGreatDoor
open Go Go.Lib
def gabL (l : List UInt8) : Bool := decide ((splt 32 l).length = 5 ∧ (splt 32 l)[2]? = some gableW)
def offsG (G : Bool) : List Nat := if G then [0, 1, 5, 6] else [0, 1, 2, 3, 5, 6]
def wsG (G : Bool) (ws : List (List UInt8)) : List (List UInt8) := if G then ws.take 2 ++ ws.drop 3 else ws
def setF (s : Sd) (j : Nat) (v : Int) : Sd := match j with
  | 0 => { s with x := v }
  | 1 => { s with y := v }
  | 2 => { s with rise := v }
  | 3 => { s with run := v }
  | 5 => { s with plate := v }
  | 6 => { s with over := v }
  | _ => s
def sdTo (G : Bool) (ws : List (List UInt8)) : Nat → Sd
  | 0 => ⟨0, 0, 0, 0, G, 0, 0⟩
  | k + 1 => setF (sdTo G ws k) ((offsG G).getD k 0) ((numW (ws.getD k [])).getD 0)
theorem numsW_len : ∀ {ws : List (List UInt8)} {ns : List Int}, numsW ws = some ns → ns.length = ws.length := fun h => by
  rw [(numsW_iff.1 h).1, List.length_map]
theorem numsW_none : ∀ {ws : List (List UInt8)} {k : Nat}, k < ws.length → numW (ws.getD k []) = none → numsW ws = none
  | [], _, h, _ => absurd h (Nat.not_lt_zero _)
  | w :: ws, 0, _, h => by
    have h' : numW w = none := h
    show (match numW w, numsW ws with | some n, some ns => some (n :: ns) | _, _ => none) = none
    rw [h']
  | w :: ws, k + 1, hk, h => by
    have ih := numsW_none (ws := ws) (k := k) (by simpa using hk) h
    show (match numW w, numsW ws with | some n, some ns => some (n :: ns) | _, _ => none) = none
    rw [ih]
    cases numW w <;> rfl
def mkG (G : Bool) : List Int → Option Sd
  | [a, b, c, d] => if G then some ⟨a, b, 0, 0, true, c, d⟩ else none
  | [a, b, c, d, e, f] => if G then none else some ⟨a, b, c, d, false, e, f⟩
  | _ => none
theorem sideP_eq (l : List UInt8) : sideP l = (numsW (wsG (gabL l) (splt 32 l))).bind (mkG (gabL l)) := by
  unfold sideP
  by_cases h : (splt 32 l).length = 5 ∧ (splt 32 l)[2]? = some gableW
  · have hg : gabL l = true := decide_eq_true h
    rw [if_pos h, hg]
    show _ = (numsW ((splt 32 l).take 2 ++ (splt 32 l).drop 3)).bind (mkG true)
    have hlen : ((splt 32 l).take 2 ++ (splt 32 l).drop 3).length = 4 := by rw [List.length_append, List.length_take, List.length_drop]; omega
    cases hn : numsW ((splt 32 l).take 2 ++ (splt 32 l).drop 3) with
    | none => rfl
    | some ns =>
      have := numsW_len hn
      rw [hlen] at this
      match ns, this with
      | [a, b, c, d], _ => rfl
  · have hg : gabL l = false := decide_eq_false h
    rw [if_neg h, hg]
    show _ = (numsW (splt 32 l)).bind (mkG false)
    cases hn : numsW (splt 32 l) with
    | none => rfl
    | some ns =>
      match ns with
      | [] => rfl
      | [_] => rfl
      | [_, _] => rfl
      | [_, _, _] => rfl
      | [_, _, _, _] => rfl
      | [_, _, _, _, _] => rfl
      | [_, _, _, _, _, _] => rfl
      | _ :: _ :: _ :: _ :: _ :: _ :: _ :: _ => rfl
theorem sideP_len {l : List UInt8} (h : (wsG (gabL l) (splt 32 l)).length ≠ (offsG (gabL l)).length) : sideP l = none := by
  rw [sideP_eq]
  generalize wsG (gabL l) (splt 32 l) = ws at *
  cases hn : numsW ws with
  | none => rfl
  | some ns =>
    have hl := numsW_len hn
    rw [← hl] at h
    cases hg : gabL l <;> rw [hg] at h
    · match ns, h with
      | [], _ => rfl
      | [_], _ => rfl
      | [_, _], _ => rfl
      | [_, _, _], _ => rfl
      | [_, _, _, _], _ => rfl
      | [_, _, _, _, _], _ => rfl
      | [_, _, _, _, _, _], h => exact absurd rfl h
      | _ :: _ :: _ :: _ :: _ :: _ :: _ :: _, _ => rfl
    · match ns, h with
      | [], _ => rfl
      | [_], _ => rfl
      | [_, _], _ => rfl
      | [_, _, _], _ => rfl
      | [_, _, _, _], h => exact absurd rfl h
      | [_, _, _, _, _], _ => rfl
      | [_, _, _, _, _, _], _ => rfl
      | _ :: _ :: _ :: _ :: _ :: _ :: _ :: _, _ => rfl
theorem sideP_bad {l : List UInt8} {k : Nat} (hk : k < (wsG (gabL l) (splt 32 l)).length) (h : numW ((wsG (gabL l) (splt 32 l)).getD k []) = none) : sideP l = none := by
  rw [sideP_eq, numsW_none hk h]; rfl
theorem sideP_all {l : List UInt8} (hlen : (wsG (gabL l) (splt 32 l)).length = (offsG (gabL l)).length) (hall : ∀ k, k < (offsG (gabL l)).length → numW ((wsG (gabL l) (splt 32 l)).getD k []) ≠ none) :
    sideP l = some (sdTo (gabL l) (wsG (gabL l) (splt 32 l)) (offsG (gabL l)).length) := by
  rw [sideP_eq]
  generalize wsG (gabL l) (splt 32 l) = ws at *
  have get : ∀ k, k < (offsG (gabL l)).length → ∃ n, numW (ws.getD k []) = some n := fun k hk => by
    cases h : numW (ws.getD k []) with
    | none => exact absurd h (hall k hk)
    | some n => exact ⟨n, rfl⟩
  generalize gabL l = G at *
  cases G
  · have hl : ws.length = 6 := hlen
    match ws, hl with
    | [w0, w1, w2, w3, w4, w5], _ =>
      obtain ⟨n0, e0⟩ := get 0 (by decide)
      obtain ⟨n1, e1⟩ := get 1 (by decide)
      obtain ⟨n2, e2⟩ := get 2 (by decide)
      obtain ⟨n3, e3⟩ := get 3 (by decide)
      obtain ⟨n4, e4⟩ := get 4 (by decide)
      obtain ⟨n5, e5⟩ := get 5 (by decide)
      have a0 : numW w0 = some n0 := e0
      have a1 : numW w1 = some n1 := e1
      have a2 : numW w2 = some n2 := e2
      have a3 : numW w3 = some n3 := e3
      have a4 : numW w4 = some n4 := e4
      have a5 : numW w5 = some n5 := e5
      have h1 : numsW [w0, w1, w2, w3, w4, w5] = some [n0, n1, n2, n3, n4, n5] := by simp only [numsW, a0, a1, a2, a3, a4, a5]
      have h2 : sdTo false [w0, w1, w2, w3, w4, w5] 6 = ⟨n0, n1, n2, n3, false, n4, n5⟩ := by
        simp [sdTo, setF, offsG, a0, a1, a2, a3, a4, a5]
      rw [h1, show (offsG false).length = 6 from rfl, h2]; rfl
  · have hl : ws.length = 4 := hlen
    match ws, hl with
    | [w0, w1, w2, w3], _ =>
      obtain ⟨n0, e0⟩ := get 0 (by decide)
      obtain ⟨n1, e1⟩ := get 1 (by decide)
      obtain ⟨n2, e2⟩ := get 2 (by decide)
      obtain ⟨n3, e3⟩ := get 3 (by decide)
      have a0 : numW w0 = some n0 := e0
      have a1 : numW w1 = some n1 := e1
      have a2 : numW w2 = some n2 := e2
      have a3 : numW w3 = some n3 := e3
      have h1 : numsW [w0, w1, w2, w3] = some [n0, n1, n2, n3] := by simp only [numsW, a0, a1, a2, a3]
      have h2 : sdTo true [w0, w1, w2, w3] 4 = ⟨n0, n1, 0, 0, true, n2, n3⟩ := by
        simp [sdTo, setF, offsG, a0, a1, a2, a3]
      rw [h1, show (offsG true).length = 4 from rfl, h2]; rfl
theorem offsG_mem (G : Bool) {k : Nat} (hk : k < (offsG G).length) : (offsG G).getD k 0 = 0 ∨ (offsG G).getD k 0 = 1 ∨ (offsG G).getD k 0 = 2 ∨ (offsG G).getD k 0 = 3 ∨ (offsG G).getD k 0 = 5 ∨ (offsG G).getD k 0 = 6 := by
  have h : ∀ j ∈ offsG G, j = 0 ∨ j = 1 ∨ j = 2 ∨ j = 3 ∨ j = 5 ∨ j = 6 := by cases G <;> decide
  rw [List.getD_eq_getElem?_getD, List.getElem?_eq_getElem hk]
  exact h _ (List.getElem_mem hk)
theorem numW_ok {w : List UInt8} {n : Int} (h : atoiAll w = .ok n) : numW w = if n < 0 ∨ 9 < w.length ∨ itoa n ≠ w then none else some n := by
  unfold numW
  rw [h]
theorem numW_no {w : List UInt8} (h : ∀ n, atoiAll w ≠ .ok n) : numW w = none := by
  unfold numW
  split
  · rename_i n hn
    exact absurd hn (h n)
  · rfl
end Go.Proofs.YtnpfkmbcejgnjaaGreatDoor
namespace Go.Proofs.YtnpfkmbcejgnjaaGreatDoor
open Go Go.RowKit Go.Am Go.Lib
set_option maxRecDepth 10000
abbrev ss (ws : List (List UInt8)) : List Value := ws.map str
/-- Package variables of the library that strings' functions read. -/
structure VarsP (W : World) : Prop where
  max : ∃ m, W.cell? ⟨0, 0, none⟩ = some (.int .i64 m)
  syn : ∃ ev, W.cell? ⟨2, 0, none⟩ = some ev ∧ (ev = .nilIface ∨ ∃ te pe, ev = .iface te pe)
  rng : ∃ ev, W.cell? ⟨3, 0, none⟩ = some ev ∧ (ev = .nilIface ∨ ∃ te pe, ev = .iface te pe)
theorem cell_below {W0 W : World} {b : Nat} {v : Value} (h : W0.cell? ⟨b, 0, none⟩ = some v) (hb : Below W0.heap.size W0 W) : W.cell? ⟨b, 0, none⟩ = some v := by
  have hlt : b < W0.heap.size := by
    obtain ⟨c, e, fr, h1, _⟩ := Sort.cells_of_cell? h
    exact (Array.getElem?_eq_some_iff.1 h1).1
  have e := hb.block b hlt
  unfold World.cell? at h ⊢
  simp only at h ⊢
  rw [e]
  exact h
theorem VarsP.below {W0 W : World} (h : VarsP W0) (hb : Below W0.heap.size W0 W) : VarsP W := by
  obtain ⟨⟨m, h1⟩, ⟨e1, h2, h3⟩, e2, h4, h5⟩ := h
  exact ⟨⟨m, cell_below h1 hb⟩, ⟨e1, cell_below h2 hb, h3⟩, e2, cell_below h4 hb, h5⟩
theorem VarsP.hp {W0 W : World} {bxs : List Bx} (h : VarsP W0) (hp : Hp W0 bxs W) : VarsP W := h.below hp.below
theorem map_strings : ∀ {xs : List ByteArray} {ws : List (List UInt8)}, xs.map (·.data.toList) = ws → xs.map Value.string = ss ws
  | [], _, h => by subst h; rfl
  | x :: xs, _, h => by
    subst h
    show Value.string x :: xs.map Value.string = str x.data.toList :: ss (xs.map (·.data.toList))
    rw [map_strings rfl]
theorem split_gives (W : World) (l : List UInt8) (hl : l.length ≤ 1000000) (hv : VarsP W) :
    CallsR Tryz.prog 126 #[str l, str [32]] W (fun g : Nat => .slice (some ⟨g, 0, none⟩) (splt 32 l).length (splt 32 l).length) (fun _ => True) (fun g => [⟨g, 9, ss (splt 32 l) ++ [], true, none⟩]) := by
  obtain ⟨m, hm⟩ := hv.max
  have hsz : (⟨l.toArray⟩ : ByteArray).size = l.length := by show l.toArray.size = _; simp
  have hd : (splitB ⟨#[32]⟩ 0 (countB ⟨l.toArray⟩ ⟨#[32]⟩) ⟨l.toArray⟩).map (·.data.toList) = splt 32 l := by
    rw [splitB_data]
    exact splitK_splt _ _ (Nat.le_refl _)
  have hlen : countB ⟨l.toArray⟩ ⟨#[32]⟩ + 1 = (splt 32 l).length := by
    rw [← hd, List.length_map, splitB_all ⟨#[32]⟩ (by decide) 0 _ _ rfl]
  have h := Tryz.strings_Split ⟨l.toArray⟩ ⟨#[32]⟩ m W (by rw [hsz]; omega) hm (by decide)
  rw [hlen, map_strings hd] at h
  refine ⟨h.mono ?_⟩
  rintro e W' ⟨rfl, rfl⟩
  refine ⟨W.heap.size, rfl, trivial, (Below.refl _ _).alloc (Nat.le_refl _) _, Own.one_sole rfl ⟨?_, Nat.le_refl _⟩⟩
  show (W.heap.push _)[W.heap.size]? = _
  rw [Array.getElem?_push_size]
  show some (Obj.cells (ss (splt 32 l)).toArray 9 (0, 0)) = some (Obj.cells (ss (splt 32 l) ++ []).toArray 9 (0, 0))
  rw [List.append_nil]
theorem cut_gives (W : World) (l : List UInt8) (hl : l.length ≤ 1000000) (hv : VarsP W) :
    CallsR Tryz.prog 82 #[str l, str [10]] W (fun _ : Unit => .tuple #[str (cut l [10]).1, str (cut l [10]).2.1, .bool (cut l [10]).2.2]) (fun _ => True) (fun _ => []) := by
  obtain ⟨m, hm⟩ := hv.max
  have hsz : (⟨l.toArray⟩ : ByteArray).size = l.length := by show l.toArray.size = _; simp
  refine CallsR.of1 ((Tryz.strings_Cut ⟨l.toArray⟩ ⟨#[10]⟩ m W (by rw [hsz]; omega) hm).mono ?_)
  rintro e W' ⟨rfl, n, rfl⟩
  refine ⟨rfl, ?_⟩
  have := below_grow W n #[]
  rwa [Sort.grow_empty] at this
theorem ss_get {l : List (List UInt8)} {j : Nat} (h : j < l.length) (junk : List Value) : (ss l ++ junk)[j]? = some (str l.toArray[j]!) := by
  have hb : l.toArray[j]! = l[j] := by
    rw [getElem!_pos l.toArray j (by simpa using h)]; simp
  rw [List.getElem?_append_left (by simpa using h), List.getElem?_map, List.getElem?_eq_getElem h, hb]; rfl
theorem holds_strs {W : World} {g : Nat} {zs : List (List UInt8)} {junk : List Value} {ty : TypeId} (h : W.heap[g]? = some (.cells (ss zs ++ junk).toArray ty (0, 0))) : Sort.Holds encStr W g 0 zs.toArray := fun j hj => by
  have hj' : j < zs.length := by simpa using hj
  have h1 := ss_get hj' junk
  constructor
  · simp only [World.cell?, h, Nat.zero_add]
    rw [List.getElem?_toArray]; exact h1
  · simp [World.frozen?, h]
theorem putCells_strs {zs zs' : List (List UInt8)} (hl : zs'.length = zs.length) (junk : List Value) : Sort.putCells encStr 0 zs'.toArray (ss zs ++ junk).toArray = (ss zs' ++ junk).toArray := by
  apply Array.ext_getElem?
  intro k
  simp only [Sort.putCells, Array.getElem?_mapIdx, List.getElem?_toArray, List.size_toArray, Nat.zero_add, Nat.sub_zero, Nat.zero_le, true_and]
  by_cases hk : k < zs.length
  · rw [ss_get hk, ss_get (show k < zs'.length by omega), Option.map_some, if_pos (by omega)]
  · rw [List.getElem?_append_right (by simp; omega), List.getElem?_append_right (by simp; omega)]
    simp only [List.length_map, hl]
    cases junk[k - zs.length]? with
    | none => rfl
    | some y => rw [Option.map_some, if_neg (by omega)]
theorem strs_near {W : World} {g : Nat} {zs zs' : List (List UInt8)} {junk : List Value} {ty : TypeId} (h : W.heap[g]? = some (.cells (ss zs ++ junk).toArray ty (0, 0))) (hl : zs'.length = zs.length) (n : Nat) :
    Near W (Sort.putRow encStr (Sort.ahead W n) g 0 zs'.toArray) g g (.cells (ss zs' ++ junk).toArray ty (0, 0)) := by
  refine ⟨rfl, rfl, rfl, ?_, ?_, .inl rfl, fun x hx _ => ?_⟩
  · show W.heap.size ≤ (W.heap.modify g _).size
    simp
  · show (W.heap.modify g (Sort.onCells (Sort.putCells encStr 0 zs'.toArray)))[g]? = _
    rw [Array.getElem?_modify, if_pos rfl, h, Option.map_some]
    show some (Obj.cells (Sort.putCells _ _ _ _) _ _) = _
    rw [putCells_strs hl]
  · show (W.heap.modify g (Sort.onCells (Sort.putCells encStr 0 zs'.toArray)))[x]? = _
    rw [Array.getElem?_modify, if_neg (fun e => hx e.symm)]
theorem delete_gives {W : World} {g : Nat} {ws : List (List UInt8)} {ty : TypeId} (h5 : ws.length = 5) (h : W.heap[g]? = some (.cells (ss ws ++ []).toArray ty (0, 0))) :
    Calls Tryz.prog 127 #[.slice (some ⟨g, 0, none⟩) 5 5, .int .i64 2, .int .i64 3] W fun e W' => ∃ x : Unit, e = .returned ((fun _ => .slice (some ⟨g, 0, none⟩) 4 5) x) ∧ (fun _ => True) x ∧
      Near W W' g ((fun _ => g) x) ((fun _ => .cells (ss (ws.take 2 ++ ws.drop 3) ++ [str []]).toArray ty (0, 0)) x) := by
  have h1 := Tryz.slices_Delete_string g 0 5 2 3 ws W (holds_strs h) (by omega) (by decide) (by decide) (by omega)
  rw [h5] at h1
  refine h1.mono ?_
  rintro e W' ⟨rfl, n, rfl⟩
  refine ⟨(), rfl, trivial, ?_⟩
  have h2 := strs_near (zs' := ws.take 2 ++ ws.drop 3 ++ List.replicate (3 - 2) []) h (by rw [List.length_append, List.length_append, List.length_take, List.length_drop, List.length_replicate]; omega) n
  have e : ss (ws.take 2 ++ ws.drop 3 ++ List.replicate (3 - 2) []) ++ [] = ss (ws.take 2 ++ ws.drop 3) ++ [str []] := by
    rw [List.append_nil]
    exact List.map_append
  rw [e] at h2
  exact h2
/-- A string of a row. -/
theorem ss_at {l : List (List UInt8)} {g : Nat} {e : TypeId} {junk : List Value} {W0 W : World} {bxs : List Bx} (hp : Hp W0 bxs W) (k : Nat) (hk : nth bxs k = some ⟨g, e, ss l ++ junk, true, none⟩) {i : Nat} (hi : i < l.length) : RowAt W g (0 + i * 1) [str (l.getD i [])] := by
  have h := RowAt.of_bx hp k hk rfl
  refine ⟨h.lt, fun j u hu => ?_⟩
  have hj : j = 0 := by have := (List.getElem?_eq_some_iff.1 hu).1; simp at this; omega
  subst hj
  have := h.get (i * 1 + 0) u (by
    show (ss l ++ junk)[i * 1 + 0]? = some u
    rw [show i * 1 + 0 = i by omega, List.getElem?_append_left (by simpa using hi), List.getElem?_map, List.getElem?_eq_getElem hi, ← hu, List.getD_eq_getElem?_getD, List.getElem?_eq_getElem hi]; rfl)
  rw [Nat.zero_add] at this ⊢
  exact this
theorem atoi_any (W : World) (w : List UInt8) (hw : w.length ≤ 1000000) (hv : VarsP W) :
    CallsR Tryz.prog 128 #[str w] W (fun x : Int × Value => .tuple #[.int .i64 x.1, x.2]) (fun x => (∃ n, atoiAll w = .ok n ∧ x = (n, .nilIface)) ∨ ((∀ n, atoiAll w ≠ .ok n) ∧ ∃ a, x.2 = .iface 228 (.pointer (some a)))) (fun _ => []) := by
  have hsz : (⟨w.toArray⟩ : ByteArray).size = w.length := by show w.toArray.size = _; simp
  cases h : atoiAll w
  case ok n =>
    refine ⟨(Tryz.strconv_Atoi_ok ⟨w.toArray⟩ (by rw [hsz]; omega) n (by simpa using h) W).mono ?_⟩
    rintro e W' ⟨rfl, hw'⟩
    refine ⟨(n, .nilIface), rfl, .inl ⟨n, rfl, rfl⟩, ?_, NewBx.nil _ _⟩
    rcases hw' with rfl | ⟨t, rfl⟩
    · exact Below.refl _ _
    · exact bytesWorld_below _ _ _
  rotate_left
  case range =>
    obtain ⟨ev, h1, h2⟩ := hv.rng
    refine ⟨(Tryz.strconv_Atoi_range ⟨w.toArray⟩ (by rw [hsz]; omega) (by simpa using h) ev W h1 h2).mono ?_⟩
    rintro e W' ⟨N, rfl, _, _, hb⟩
    exact ⟨(_, .iface 228 (.pointer (some ⟨N, 0, none⟩))), rfl, .inr ⟨fun n hn => by (cases hn), ⟨N, 0, none⟩, rfl⟩, hb, NewBx.nil _ _⟩
  · obtain ⟨ev, h1, h2⟩ := hv.syn
    refine ⟨(Tryz.strconv_Atoi_syntax ⟨w.toArray⟩ (by rw [hsz]; omega) (by simpa using h) ev W h1 h2).mono ?_⟩
    rintro e W' ⟨N, rfl, _, _, hb⟩
    exact ⟨(0, .iface 228 (.pointer (some ⟨N, 0, none⟩))), rfl, .inr ⟨fun n hn => by (cases hn), ⟨N, 0, none⟩, rfl⟩, hb, NewBx.nil _ _⟩
section
variable {P : Program} {N : Nat} {ops : List Oper} {o : Oper} {rest : List Oper} {env : Env} {A : World → Prop} {A2 : World → Prop} {R : (Nat → Value) → World → Prop}
theorem neqNil_run {ρ : Operand → Value} {t u : TypeId} {x : Operand} {v : Value} {b : Bool} {ms : Array (String × TypeId)} (ht : P.underlying t = some (.interface ms)) (ho : o.op = .binOp .neq t x (.const .nilIface) u) (hx : ρ x = v) (hc : ρ (.const .nilIface) = .nilIface)
    (hv : (v = .nilIface ∧ b = false) ∨ ((∃ te a, v = .iface te (.pointer (some a))) ∧ b = true)) (W : World) : (execOp ρ o).run P W = .ok (.value (.bool b)) W := by
  have h1 : (binOp .neq t v .nilIface).run P W = .ok (.bool b) W := by
    rcases hv with ⟨rfl, rfl⟩ | ⟨⟨te, a, rfl⟩, rfl⟩
    · have h : ∀ d : Nat, (Op.equalIn (d + 1) t .nilIface .nilIface).run P W = .ok true W := fun d => by
        simp [Op.equalIn, run_underlying ht]
      simp only [binOp]
      simp [Op.equal, Op.maxDepth, h 9999]
    · have h : ∀ d : Nat, (Op.equalIn (d + 1) t (.iface te (.pointer (some a))) .nilIface).run P W = .ok false W := fun d => by
        simp [Op.equalIn, run_underlying ht]
      simp only [binOp]
      simp [Op.equal, Op.maxDepth, h 9999]
  have h2 : (eqGuard .neq t x (.const .nilIface) v .nilIface).run P W = .ok () W := by
    rcases hv with ⟨rfl, rfl⟩ | ⟨⟨te, a, rfl⟩, rfl⟩ <;> simp [eqGuard]
  simp only [execOp, ho, hx, hc, Sem.run_bind, h2, h1, Result.andThen_ok, Sem.run_pure]
end
end Go.Proofs.YtnpfkmbcejgnjaaGreatDoor
namespace Go.Proofs.YtnpfkmbcejgnjaaGreatDoor
open Go Go.RowKit Go.Am Go.Lib
set_option maxRecDepth 10000
-- BOXES 4
theorem okSd_of {s : Sd} (h : rgd s = true) : okSd s ∧ (lineOf s).length ≤ 200 := by
  have hi : ∀ n : Int, 0 ≤ n → n ≤ 65536 → okI n ∧ (itoa n).length ≤ 18 := fun n h0 h1 => by
    have hl : (itoa n).length ≤ 9 := by
      unfold itoa
      rw [if_neg (by omega)]
      exact dd_len 9 n.toNat (by omega) (by omega)
    exact ⟨⟨h0, hl⟩, by omega⟩
  unfold rgd btw at h
  simp only [Bool.and_eq_true, decide_eq_true_eq] at h
  obtain ⟨hp, ⟨⟨hx, hy⟩, hpl⟩, ho⟩ := h
  obtain ⟨ox, lx⟩ := hi s.x hx.1 hx.2
  obtain ⟨oy, ly⟩ := hi s.y hy.1 hy.2
  obtain ⟨op, lp⟩ := hi s.plate hpl.1 hpl.2
  obtain ⟨oo, lo⟩ := hi s.over ho.1 ho.2
  cases hg : s.gable with
  | true =>
    rw [hg] at hp
    have hp' : (s.rise == 0 && s.run == 0) = true := hp
    simp only [Bool.and_eq_true, beq_iff_eq] at hp'
    refine ⟨⟨ox, oy, fun _ => hp', fun h => (by rw [hg] at h; cases h), op, oo⟩, ?_⟩
    unfold lineOf wordsOf
    rw [if_pos hg, join_length]
    simp only [lens, List.map_cons, List.map_nil, List.sum_cons, List.sum_nil, List.length_cons, List.length_nil, gableW]
    omega
  | false =>
    rw [hg] at hp
    have hp' : ((decide (1 ≤ s.rise) && decide (s.rise ≤ 48)) && (decide (1 ≤ s.run) && decide (s.run ≤ 48))) = true := hp
    simp only [Bool.and_eq_true, decide_eq_true_eq] at hp'
    obtain ⟨or_, lr⟩ := hi s.rise (by omega) (by omega)
    obtain ⟨ou, lu⟩ := hi s.run (by omega) (by omega)
    refine ⟨⟨ox, oy, fun h => (by rw [hg] at h; cases h), fun _ => ⟨or_, ou⟩, op, oo⟩, ?_⟩
    unfold lineOf wordsOf
    rw [if_neg (by rw [hg]; decide), join_length]
    simp only [lens, List.map_cons, List.map_nil, List.sum_cons, List.sum_nil, List.length_cons, List.length_nil]
    omega
abbrev rl : List UInt8 := ringW ++ [10]
/-- The text up to a side. -/
def txt (rs : List (List Sd)) (r i : Nat) : List UInt8 := planText (rs.take r) ++ ((ringW ++ [10]) ++ unl (((rg rs r).take i).map lineOf))
theorem txt_zero (rs : List (List Sd)) (r : Nat) : txt rs r 0 = planText (rs.take r) ++ rl := by
  unfold txt
  rw [List.take_zero, List.map_nil]
  show _ ++ ((ringW ++ [10]) ++ []) = _
  rw [List.append_nil]
theorem txt_succ {rs : List (List Sd)} {r i : Nat} (hi : i < (rg rs r).length) : txt rs r (i + 1) = (txt rs r i ++ lineOf (sd (rg rs r) i)) ++ [10] := by
  have e : (rg rs r).take (i + 1) = (rg rs r).take i ++ [sd (rg rs r) i] := by rw [List.take_add_one, sd_get hi]; rfl
  unfold txt
  rw [e, List.map_append, unl_app, List.map_cons, List.map_nil, unl_cons]
  simp [unl]
theorem txt_all {rs : List (List Sd)} {r : Nat} (hr : r < rs.length) : txt rs r (rg rs r).length = planText (rs.take (r + 1)) := by
  have e : rs.take (r + 1) = rs.take r ++ [rg rs r] := by rw [List.take_add_one, rg_get hr]; rfl
  unfold txt
  rw [e, planText_app, List.take_length]
  simp [planText, planLines, lns, unl]
theorem unl_len {l : List Sd} (h : ∀ s ∈ l, rgd s = true) : ∀ i, i ≤ l.length → (unl ((l.take i).map lineOf)).length ≤ 201 * i
  | 0, _ => by simp [unl]
  | i + 1, hi => by
    have ih := unl_len h i (by omega)
    have e : l.take (i + 1) = l.take i ++ [sd l i] := by rw [List.take_add_one, sd_get (by omega)]; rfl
    have hl := (okSd_of (h _ (List.mem_of_getElem? (sd_get (show i < l.length by omega))))).2
    rw [e, List.map_append, unl_app, List.map_cons, List.map_nil, unl_cons, List.length_append, List.length_append, List.length_cons]
    simp only [unl, List.map_nil, List.flatten_nil, List.length_nil] at ih ⊢
    omega
theorem txt_len {rs : List (List Sd)} (h : ∀ l ∈ rs, ∀ s ∈ l, rgd s = true) : ∀ r, r ≤ rs.length → (planText (rs.take r)).length ≤ 5 * r + 201 * tot (rs.take r) ∧ (r < rs.length → ∀ i, i ≤ (rg rs r).length → (txt rs r i).length ≤ 5 * (r + 1) + 201 * (tot (rs.take r) + i))
  | r, hr => by
    have hp : (planText (rs.take r)).length ≤ 5 * r + 201 * tot (rs.take r) := by
      cases r with
      | zero => simp [planText, planLines, unl]
      | succ r =>
        have ih := (txt_len h r (by omega)).2 (by omega) _ (Nat.le_refl _)
        rw [txt_all (by omega)] at ih
        rw [tot_take_succ (show r < rs.length by omega)]
        exact ih
    refine ⟨hp, fun hlt i hi => ?_⟩
    have hu := unl_len (h _ (List.mem_of_getElem? (rg_get hlt))) i hi
    unfold txt
    rw [List.length_append, List.length_append]
    have : (ringW ++ [10]).length = 5 := rfl
    omega
theorem take_tot {rs : List (List Sd)} (h : ∀ l ∈ rs, l ≠ []) : ∀ r, r ≤ rs.length → r ≤ tot (rs.take r)
  | 0, _ => Nat.zero_le _
  | r + 1, hr => by
    have ih := take_tot h r (by omega)
    have := List.length_pos_iff.2 (h _ (List.mem_of_getElem? (rg_get (show r < rs.length by omega))))
    rw [tot_take_succ (show r < rs.length by omega)]
    omega
/-- The words ahead of the last two. -/
def midW (s : Sd) : List (List UInt8) := if s.gable then [itoa s.x, itoa s.y, gableW] else [itoa s.x, itoa s.y, itoa s.rise, itoa s.run]
theorem midW_all (s : Sd) : midW s ++ [itoa s.plate, itoa s.over] = wordsOf s := by
  unfold midW wordsOf
  split <;> rfl
theorem join_gives {W0 W : World} {bxs : List Bx} (hp : Hp W0 bxs W) (k : Nat) {g cap : Nat} {junk : List Value} {ws : List (List UInt8)} (hk : nth bxs k = some ⟨g, 9, ss ws ++ junk, true, none⟩) (hcap : ws.length ≤ cap) (hn : ws.length ≤ 1000) (hl : (join ws [32]).length ≤ 1000000) :
    CallsR Tryz.prog 79 #[.slice (some ⟨g, 0, none⟩) ws.length cap, str [32]] W (fun _ : Unit => str (join ws [32])) (fun _ => True) (fun _ => []) := by
  have hm : (ws.map fun l => (⟨l.toArray⟩ : ByteArray)).map (·.data.toList) = ws := by
    rw [List.map_map]
    conv => rhs; rw [← List.map_id ws]
    exact List.map_congr_left fun l _ => rfl
  have hat := RowAt.of_bx hp k hk rfl
  have h := Tryz.strings_Join g 0 cap (ws.map fun l => (⟨l.toArray⟩ : ByteArray)) ⟨#[32]⟩ W (fun j x hx => by
    rw [List.getElem?_map] at hx
    cases hw : ws[j]? with
    | none => rw [hw] at hx; cases hx
    | some l =>
      rw [hw] at hx
      injection hx with hx
      have := hat.get j (str l) (by
        show (ss ws ++ junk)[j]? = some (str l)
        rw [List.getElem?_append_left (by rw [List.length_map]; exact (List.getElem?_eq_some_iff.1 hw).1), List.getElem?_map, hw]; rfl)
      rw [← hx]
      exact this) hat.lt (by rw [List.length_map]; omega) (by rw [List.length_map]; exact hcap) (by rw [hm]; show (join ws [32]).length ≤ _; omega)
  rw [hm, List.length_map] at h
  refine CallsR.of1 (h.mono ?_)
  rintro e w' ⟨rfl, hb⟩
  exact ⟨rfl, hb⟩
set_option maxHeartbeats 8000000 in
theorem print_ok (W : World) (p : Option Addr) (cap : Nat) (rs : List (List Sd)) (hn : rs.length < 4611686018427387904) (hR : RingsP W p rs) (hc : chk rs = 0) (ht : TabP W) :
    CallsR Tryz.prog 33 #[planV p rs.length cap] W (fun _ : Unit => .tuple #[str (planText rs), .int .i64 0]) (fun _ => True) (fun _ => []) := by
  obtain ⟨hne, hT, _⟩ := chk_ne hc
  obtain ⟨hrg, _⟩ := chk_parts hc
  have hl : ∀ l ∈ rs, l.length < 4611686018427387904 := fun l h => by have := len_le_tot h; omega
  have hrt := take_tot hne
  refine calls_enter (args := [planV p rs.length cap]) Tryz.func33 rfl rfl rfl ?_
  refine zA ?_
  refine zB ?_
  (refine wl_box rfl rfl rfl rfl ?_; intro)
  iterate 2 refine wl_pure Tryz.hT rfl rfl rfl ?_
  refine wl_nil ?_
  rename_i b1
  refine zE ?_
  iterate 2 refine zA ?_
  refine zB ?_
  refine wl_loadBx 0 Tryz.hT rfl rfl rfl rfl rfl rfl rfl rfl ?_
  refine wl_call1 rfl rfl rfl rfl rfl rfl (by kernel_rfl) (fun W hp => (check_gives W p cap rs hn (by omega) (hR.hp hp)).cast (by rw [hc])) ?_
  refine wl_pure Tryz.hT rfl rfl rfl ?_
  refine wl_nil ?_
  refine zE ?_
  refine zS rfl ?_
  refine zI ?_
  refine zE ?_
  refine zA ?_
  refine zB ?_
  (refine wl_allocZ Tryz.hZ rfl rfl rfl rfl ?_; intro)
  refine wl_nil ?_
  rename_i b4
  refine zE ?_
  iterate 2 refine zA ?_
  refine zB ?_
  refine wl_pure Tryz.hT rfl rfl rfl ?_
  refine wl_loadBx 0 Tryz.hT rfl rfl rfl rfl rfl rfl rfl rfl ?_
  iterate 2 refine wl_pure Tryz.hT rfl rfl rfl ?_
  refine wl_nil ?_
  refine zE ?_
  refine zH ?_
  refine wc_newGone ?_
  refine wc_loopA (X := Nat × Vec × Value) (fun x => [(4, selfP b4), (14, slv p rs.length cap), (15, .int .i64 (rs.length : Nat)), (16, .int .i64 (x.1 : Nat))]) (fun x => Hp W [bldB b4 x.2.2 (x.2.1.val (planText (rs.take x.1)).length), x.2.1.bx 5 (bc (planText (rs.take x.1)))])
    (fun x => x.1 ≤ rs.length ∧ x.2.1.OK 1 (planText (rs.take x.1)).length (bc (planText (rs.take x.1))) ∧ (x.2.2 = .pointer none ∨ x.2.2 = selfP b4)) (fun x => rs.length - x.1) (0, Vec.empty, .pointer none) ⟨Nat.zero_le _, Vec.OK.empty 1, .inl rfl⟩ ⟨rfl, rfl, rfl, rfl, trivial⟩ (fun W1 hp => hp.pick [1, 2] (by decide) rfl) ?_
  rintro ⟨r, V, pv⟩ ⟨hr, hV, hpv⟩
  change r ≤ rs.length at hr
  change V.OK 1 (planText (rs.take r)).length (bc (planText (rs.take r))) at hV
  change pv = .pointer none ∨ pv = selfP b4 at hpv
  refine zA ?_
  refine zB ?_
  refine wl_pure Tryz.hT rfl rfl rfl ?_
  refine wl_nil ?_
  refine zE ?_
  refine zA ?_
  refine wc_cond rfl (fun h => ?_) (fun h => ?_)
  rotate_left
  · have e : r = rs.length := by have h' : decide ((r : Int) < (rs.length : Nat)) = false := h; rw [decide_eq_false_iff_not] at h'; omega
    subst e
    rw [List.take_length] at hV
    refine zJ ?_
    iterate 2 refine zK ?_
    refine zL ?_
    refine zE ?_
    refine zA ?_
    refine zB ?_
    refine wl_callF (X := Unit) (val := fun _ => str (planText rs)) (Φ := fun _ => True) (capt := []) (vs := [selfP b4]) (fun _ => []) rfl rfl rfl rfl rfl rfl (by kernel_rfl) (fun W1 hp => string_gives hpv (by rw [List.take_length] at hp; exact hp) hV) ?_
    intro _ _
    iterate 2 refine wl_pure Tryz.hT rfl rfl rfl ?_
    refine wl_nil ?_
    refine zE ?_
    refine zO ?_
    exact ne_ret2 Tryz.hT rfl (.tmp rfl) (.tmp rfl) () rfl trivial fun W _ => NewBx.nil _ _
  have hr : r < rs.length := by have h' : decide ((r : Int) < (rs.length : Nat)) = true := h; rw [decide_eq_true_iff] at h'; omega
  clear h
  obtain ⟨b, off, rfl, hrow⟩ := hR.row hr
  obtain ⟨q, cap2, hq1, hq2⟩ := hrow r hr
  have t1 := tot_take_succ hr
  have t2 := tot_take_le rs (r + 1)
  have hlr := len_le_tot (List.mem_of_getElem? (rg_get hr))
  have hpl := (txt_len hrg r (by omega)).1
  have htl := (txt_len hrg r (by omega)).2 hr
  have hr1 := hrt r (by omega)
  refine zI ?_
  refine zE ?_
  refine zA ?_
  refine zH ?_
  refine zA ?_
  refine zB ?_
  refine wl_indexAddr Tryz.hT rfl rfl rfl rfl rfl rfl rfl (by omega) (by omega) ?_
  refine wl_load rfl rfl rfl rfl (fun W hp => RowAt.load 0 Tryz.hT rfl ((fun W hp => hq1.hp hp) W hp) rfl) ?_
  refine wl_pure Tryz.hT rfl rfl rfl ?_
  refine wl_nil ?_
  refine zE ?_
  refine zA ?_
  refine zB ?_
  refine wl_callF (X := Vec) (val := fun _ => .tuple #[.int .i64 (rl.length : Nat), .nilIface]) (Φ := fun x => x.OK 1 (planText (rs.take r) ++ rl).length (bc (planText (rs.take r) ++ rl))) (capt := []) (vs := [selfP b4, str rl]) (fun x => [bldB b4 (selfP b4) (x.val (planText (rs.take r) ++ rl).length), x.bx 5 (bc (planText (rs.take r) ++ rl))])
    rfl rfl rfl rfl rfl rfl (by kernel_rfl) (fun W1 hp => write_gives (W0 := W) (b := b4) (p := pv) (V := V) (l := planText (rs.take r)) rl hpv hp hV (by have : rl.length = 5 := rfl; omega)) ?_
  rw [← txt_zero]
  intro V2 hV2
  refine wl_nil ?_
  refine zE ?_
  refine zA ?_
  refine zB ?_
  iterate 3 refine wl_pure Tryz.hT rfl rfl rfl ?_
  refine wl_nil ?_
  refine zE ?_
  refine zH ?_
  refine wc_loop (X := Nat × Vec) (fun x => [(4, selfP b4), (14, slv (some ⟨b, off, none⟩) rs.length cap), (15, .int .i64 (rs.length : Nat)), (16, .int .i64 (r : Nat)), (21, slv q (rg rs r).length cap2), (22, .int .i64 ((rg rs r).length : Nat)), (23, .int .i64 (x.1 : Nat))]) (fun x => [bldB b4 (selfP b4) (x.2.val (txt rs r x.1).length), x.2.bx 5 (bc (txt rs r x.1))])
    (fun x => x.1 ≤ (rg rs r).length ∧ x.2.OK 1 (txt rs r x.1).length (bc (txt rs r x.1))) (fun x => (rg rs r).length - x.1) (0, V2) ⟨Nat.zero_le _, hV2⟩ ⟨rfl, rfl, rfl, rfl, rfl, rfl, rfl, trivial⟩ [] rfl ?_
  rintro ⟨i, V3⟩ ⟨hi, hV3⟩
  change i ≤ (rg rs r).length at hi
  change V3.OK 1 (txt rs r i).length (bc (txt rs r i)) at hV3
  refine zA ?_
  refine zB ?_
  refine wl_pure Tryz.hT rfl rfl rfl ?_
  refine wl_nil ?_
  refine zE ?_
  refine zA ?_
  refine wc_cond rfl (fun h => ?_) (fun h => ?_)
  rotate_left
  · have e : i = (rg rs r).length := by have h' : decide ((i : Int) < ((rg rs r).length : Nat)) = false := h; rw [decide_eq_false_iff_not] at h'; omega
    subst e
    rw [txt_all hr] at hV3 ⊢
    refine zJ ?_
    iterate 2 refine zK ?_
    refine zL ?_
    refine zN ?_
    refine zE ?_
    refine zB ?_
    iterate 2 refine wl_pure Tryz.hT rfl rfl rfl ?_
    refine wl_nil ?_
    exact ne_loopA (r + 1, V3, selfP b4) ⟨hr, hV3, .inr rfl⟩ (by show rs.length - (r + 1) < rs.length - r; omega) ⟨rfl, rfl, rfl, congrArg (fun z => some (Value.int .i64 z)) (wrap_id (x := (r : Int) + 1) (by omega) (by omega)), trivial⟩ (fun W1 hp => hp)
  have hi : i < (rg rs r).length := by have h' : decide ((i : Int) < ((rg rs r).length : Nat)) = true := h; rw [decide_eq_true_iff] at h'; omega
  clear h
  obtain ⟨bq, oq, rfl, hrq⟩ := hq2.row hi
  obtain ⟨hok, hll⟩ := okSd_of (hrg _ (List.mem_of_getElem? (rg_get hr)) _ (List.mem_of_getElem? (sd_get hi)))
  have hti := htl i (by omega)
  have hts := txt_succ hi
  have b64 : ∀ n : Int, okI n → -9223372036854775808 ≤ n ∧ n ≤ 9223372036854775807 := fun n h => by
    have hb : n.toNat < 10 ^ 9 := dd_long 9 _ (by have h9 := h.2; unfold itoa at h9; rwa [if_neg (by have := h.1; omega)] at h9)
    have := h.1
    omega
  refine zI ?_
  refine zE ?_
  refine zA ?_
  refine zH ?_
  refine zA ?_
  refine zB ?_
  refine wl_indexAddr Tryz.hT rfl rfl rfl rfl rfl rfl rfl (by omega) (by omega) ?_
  refine wl_load rfl rfl rfl rfl (fun W hp => RowAt.load 0 Tryz.hT rfl ((fun W hp => (hrq i hi).hp hp) W hp) rfl) ?_
  (refine wl_allocZ Tryz.hZ rfl rfl rfl rfl ?_; intro)
  refine wl_storeBx 2 Tryz.hT rfl rfl rfl rfl rfl rfl rfl rfl rfl rfl rfl ?_
  refine wl_nil ?_
  rename_i b8
  generalize hsd : sd (rg rs r) i = s at *
  refine zE ?_
  refine zA ?_
  refine zT Tryz.mixed (by kernel_rfl) ?_
  refine wq_pure Tryz.hT rfl rfl rfl ?_
  refine wq_loadBx 2 Tryz.hT rfl rfl rfl rfl rfl rfl rfl rfl ?_
  refine wq_call1 rfl rfl rfl rfl rfl rfl (by kernel_rfl) (fun W hp => itoa_gives s.x (b64 _ hok.1).1 (b64 _ hok.1).2 W (ht.hp hp)) ?_
  refine wq_pure Tryz.hT rfl rfl rfl ?_
  refine wq_loadBx 2 Tryz.hT rfl rfl rfl rfl rfl rfl rfl rfl ?_
  refine wq_call1 rfl rfl rfl rfl rfl rfl (by kernel_rfl) (fun W hp => itoa_gives s.y (b64 _ hok.2.1).1 (b64 _ hok.2.1).2 W (ht.hp hp)) ?_
  refine wq_nil ?_
  (refine wl_buildRowZ Tryz.hZ Tryz.hT rfl rfl rfl rfl rfl rfl rfl rfl rfl rfl rfl ?_; intro)
  refine wl_pure Tryz.hT rfl rfl rfl ?_
  refine wl_nil ?_
  rename_i b33
  refine ne_then ?_
  refine wc_cut (X := Vec) (fun x => [(4, selfP b4), (8, .pointer (some ⟨b8, 0, none⟩)), (9, x.val (midW s).length), (14, slv (some ⟨b, off, none⟩) rs.length cap), (15, .int .i64 (rs.length : Nat)), (16, .int .i64 (r : Nat)), (21, slv (some ⟨bq, oq, none⟩) (rg rs r).length cap2), (22, .int .i64 ((rg rs r).length : Nat)), (23, .int .i64 (i : Nat))]) (fun x => [bldB b4 (selfP b4) (V3.val (txt rs r i).length), V3.bx 5 (bc (txt rs r i)), ⟨b8, 42, s.cells, true, none⟩, x.bx 9 (ss (midW s))])
    (fun x => x.OK 1 (midW s).length (ss (midW s))) ?_ ?_
  · refine zA ?_
    refine zB ?_
    refine wl_pure Tryz.hT rfl rfl rfl ?_
    refine wl_loadBx 2 Tryz.hT rfl rfl rfl rfl rfl rfl rfl rfl ?_
    refine wl_nil ?_
    refine zE ?_
    refine wc_cond rfl (fun hg => ?_) (fun hg => ?_)
    · have hg : s.gable = true := hg
      have hm : midW s = [itoa s.x, itoa s.y, gableW] := by unfold midW; rw [if_pos hg]
      refine zB ?_
      refine wl_pure Tryz.hT rfl rfl rfl ?_
      (refine wl_buildRowZ Tryz.hZ Tryz.hT rfl rfl rfl rfl rfl rfl rfl rfl rfl rfl rfl ?_; intro)
      refine wl_appendTo (V := ⟨some b33, 2, []⟩) (len := 2) (xs := ss [itoa s.x, itoa s.y]) 3 4 Tryz.vec100 (midW s).length (ss (midW s)) rfl rfl rfl rfl rfl rfl rfl rfl rfl rfl rfl ⟨rfl, fun h => (by cases h), fun _ => ⟨Nat.le_refl _, by simp only [maxLen]; omega, rfl⟩⟩ rfl rfl (by rw [hm]; rfl) (by rw [hm]; rfl) (by rw [hm]; simp only [maxLen, List.length_cons, List.length_nil]; omega) (by rw [hm]; simp only [List.length_cons, List.length_nil]; omega) rfl ?_
      intro g c1 j1 hV4
      refine wl_pure Tryz.hT rfl rfl rfl ?_
      refine wl_nil ?_
      exact ne_cutP ⟨some g, c1, j1⟩ hV4 ⟨rfl, rfl, rfl, rfl, rfl, rfl, rfl, rfl, rfl, trivial⟩ [0, 1, 2, 3] (by decide) rfl
    · have hg : s.gable = false := hg
      have hm : midW s = [itoa s.x, itoa s.y, itoa s.rise, itoa s.run] := by unfold midW; rw [if_neg (by rw [hg]; decide)]
      obtain ⟨o1, o2⟩ := hok.2.2.2.1 hg
      refine wc_lateY (X := { x : Vec // x.OK 1 (midW s).length (ss (midW s)) }) [true, true, true, true, true, true, true, false, false, false] (fun x => [(4, selfP b4), (8, .pointer (some ⟨b8, 0, none⟩)), (9, x.1.val (midW s).length), (14, slv (some ⟨b, off, none⟩) rs.length cap), (15, .int .i64 (rs.length : Nat)), (16, .int .i64 (r : Nat)), (21, slv (some ⟨bq, oq, none⟩) (rg rs r).length cap2), (22, .int .i64 ((rg rs r).length : Nat)), (23, .int .i64 (i : Nat))]) (fun x => [bldB b4 (selfP b4) (V3.val (txt rs r i).length), V3.bx 5 (bc (txt rs r i)), ⟨b8, 42, s.cells, true, none⟩, x.1.bx 9 (ss (midW s))])
        3 [bldB b4 (selfP b4) (V3.val (txt rs r i).length), V3.bx 5 (bc (txt rs r i)), ⟨b8, 42, s.cells, true, none⟩, ⟨b33, 9, ss [itoa s.x, itoa s.y], true, none⟩] Tryz.mixed (by kernel_rfl) ?_ ?_
      · refine wq_pure Tryz.hT rfl rfl rfl ?_
        refine wq_pure Tryz.hT rfl rfl rfl ?_
        refine wq_loadBx 2 Tryz.hT rfl rfl rfl rfl rfl rfl rfl rfl ?_
        refine wq_call1 rfl rfl rfl rfl rfl rfl (by kernel_rfl) (fun W hp => itoa_gives s.rise (b64 _ o1).1 (b64 _ o1).2 W (ht.hp hp)) ?_
        refine wq_pure Tryz.hT rfl rfl rfl ?_
        refine wq_loadBx 2 Tryz.hT rfl rfl rfl rfl rfl rfl rfl rfl ?_
        refine wq_call1 rfl rfl rfl rfl rfl rfl (by kernel_rfl) (fun W hp => itoa_gives s.run (b64 _ o2).1 (b64 _ o2).2 W (ht.hp hp)) ?_
        refine wq_wt ?_
        refine wt_step rfl rfl (by ((repeat (first | refine Weak.same ?_ | refine Weak.off rfl ?_)); exact trivial)) ?_
        refine RS.cons ?_ (RS.nil)
        (refine wl_buildRowZ Tryz.hZ Tryz.hT rfl rfl rfl rfl rfl rfl rfl rfl rfl rfl rfl ?_; intro)
        refine wl_nil ?_
        refine ne_wt ?_
        refine wt_step rfl rfl (by ((repeat (first | refine Weak.same ?_ | refine Weak.off rfl ?_)); exact trivial)) ?_
        refine RS.cons ?_ (RS.nil)
        refine wl_appendTo (V := ⟨some b33, 2, []⟩) (len := 2) (xs := ss [itoa s.x, itoa s.y]) 3 4 Tryz.vec100 (midW s).length (ss (midW s)) rfl rfl rfl rfl rfl rfl rfl rfl rfl rfl rfl ⟨rfl, fun h => (by cases h), fun _ => ⟨Nat.le_refl _, by simp only [maxLen]; omega, rfl⟩⟩ rfl rfl (by rw [hm]; rfl) (by rw [hm]; rfl) (by rw [hm]; simp only [maxLen, List.length_cons, List.length_nil]; omega) (by rw [hm]; simp only [List.length_cons, List.length_nil]; omega) rfl ?_; intro g c1 j1 hV4
        refine wl_nil ?_
        refine ne_wt ?_
        refine wt_stepF rfl rfl (by kernel_rfl) ?_
        refine RS.cons ?_ (RS.nil)
        refine wl_pure Tryz.hT rfl rfl rfl ?_
        refine wl_nil ?_
        refine ne_wt ?_
        refine wt_doneF rfl (by kernel_rfl) ?_
        exact ne_late ⟨⟨some g, c1, j1⟩, hV4⟩ ⟨rfl, rfl, rfl, rfl, rfl, rfl, rfl, rfl, rfl, trivial⟩ [0, 1, 2, 3] (by decide) rfl
      rintro ⟨V4, hV4⟩
      exact ne_cutP V4 hV4 ⟨rfl, rfl, rfl, rfl, rfl, rfl, rfl, rfl, rfl, trivial⟩ [0, 1, 2, 3] (by decide) rfl
  intro V4 hV4
  have hml : (midW s).length ≤ 4 := by unfold midW; split <;> simp
  have hwl : (wordsOf s).length = (midW s).length + 2 := by rw [← midW_all, List.length_append]; rfl
  repeat refine wc_seq ?_
  refine wc_lateY (X := { x : Nat × Nat × List Value // (⟨some x.1, x.2.1, x.2.2⟩ : Vec).OK 1 (wordsOf s).length (ss (wordsOf s)) }) [true, true, true, true, true, true, true, false, false, false] (fun x => [(4, selfP b4), (8, .pointer (some ⟨b8, 0, none⟩)), (9, .slice (some ⟨x.1.1, 0, none⟩) (wordsOf s).length x.1.2.1), (14, slv (some ⟨b, off, none⟩) rs.length cap), (15, .int .i64 (rs.length : Nat)), (16, .int .i64 (r : Nat)), (21, slv (some ⟨bq, oq, none⟩) (rg rs r).length cap2), (22, .int .i64 ((rg rs r).length : Nat)), (23, .int .i64 (i : Nat))]) (fun x => [bldB b4 (selfP b4) (V3.val (txt rs r i).length), V3.bx 5 (bc (txt rs r i)), ⟨b8, 42, s.cells, true, none⟩, ⟨x.1.1, 9, ss (wordsOf s) ++ x.1.2.2, true, none⟩])
    3 [bldB b4 (selfP b4) (V3.val (txt rs r i).length), V3.bx 5 (bc (txt rs r i)), ⟨b8, 42, s.cells, true, none⟩, V4.bx 9 (ss (midW s))] Tryz.mixed (by kernel_rfl) ?_ ?_
  · refine wq_pure Tryz.hT rfl rfl rfl ?_
    refine wq_pure Tryz.hT rfl rfl rfl ?_
    refine wq_loadBx 2 Tryz.hT rfl rfl rfl rfl rfl rfl rfl rfl ?_
    refine wq_call1 rfl rfl rfl rfl rfl rfl (by kernel_rfl) (fun W hp => itoa_gives s.plate (b64 _ hok.2.2.2.2.1).1 (b64 _ hok.2.2.2.2.1).2 W (ht.hp hp)) ?_
    refine wq_pure Tryz.hT rfl rfl rfl ?_
    refine wq_loadBx 2 Tryz.hT rfl rfl rfl rfl rfl rfl rfl rfl ?_
    refine wq_call1 rfl rfl rfl rfl rfl rfl (by kernel_rfl) (fun W hp => itoa_gives s.over (b64 _ hok.2.2.2.2.2).1 (b64 _ hok.2.2.2.2.2).2 W (ht.hp hp)) ?_
    refine wq_wt ?_
    refine wt_step rfl rfl (by ((repeat (first | refine Weak.same ?_ | refine Weak.off rfl ?_)); exact trivial)) ?_
    refine RS.cons ?_ (RS.nil)
    (refine wl_buildRowZ Tryz.hZ Tryz.hT rfl rfl rfl rfl rfl rfl rfl rfl rfl rfl rfl ?_; intro)
    refine wl_nil ?_
    refine ne_wt ?_
    refine wt_step rfl rfl (by ((repeat (first | refine Weak.same ?_ | refine Weak.off rfl ?_)); exact trivial)) ?_
    refine RS.cons ?_ (RS.nil)
    refine wl_appendTo (V := V4) (len := (midW s).length) (xs := ss (midW s)) 3 4 Tryz.vec100 (wordsOf s).length (ss (wordsOf s)) rfl rfl rfl rfl rfl rfl rfl rfl rfl rfl rfl hV4 rfl rfl hwl.symm (by show ss (midW s) ++ ss [itoa s.plate, itoa s.over] = _; rw [← midW_all]; exact List.map_append.symm) (by simp only [maxLen]; omega) (by omega) rfl ?_; intro g c1 j1 hV5
    refine wl_nil ?_
    refine ne_wt ?_
    refine wt_stepF rfl rfl (by kernel_rfl) ?_
    refine RS.cons ?_ (RS.nil)
    refine wl_pure Tryz.hT rfl rfl rfl ?_
    refine wl_nil ?_
    refine ne_wt ?_
    refine wt_doneF rfl (by kernel_rfl) ?_
    exact ne_late ⟨(g, c1, j1), hV5⟩ ⟨rfl, rfl, rfl, rfl, rfl, rfl, rfl, rfl, rfl, trivial⟩ [0, 1, 2, 3] (by decide) rfl
  rintro ⟨⟨g, c1, j1⟩, hV5⟩
  change (⟨some g, c1, j1⟩ : Vec).OK 1 (wordsOf s).length (ss (wordsOf s)) at hV5
  have hc1 : (wordsOf s).length ≤ c1 := (hV5.cap (by simp)).1
  refine zE ?_
  refine zA ?_
  refine zB ?_
  refine wl_pure Tryz.hT rfl rfl rfl ?_
  refine wl_call1 rfl rfl rfl rfl rfl rfl (by kernel_rfl) (fun W hp => join_gives hp 3 (g := g) (cap := c1) (junk := j1) (ws := wordsOf s) rfl hc1 (by omega) (by have : (join (wordsOf s) [32]).length ≤ 200 := hll; omega)) ?_
  refine wl_callF (X := Vec) (val := fun _ => .tuple #[.int .i64 ((lineOf s).length : Nat), .nilIface]) (Φ := fun x => x.OK 1 (txt rs r i ++ lineOf s).length (bc (txt rs r i ++ lineOf s))) (capt := []) (vs := [selfP b4, str (lineOf s)]) (fun x => [bldB b4 (selfP b4) (x.val (txt rs r i ++ lineOf s).length), x.bx 5 (bc (txt rs r i ++ lineOf s))])
    rfl rfl rfl rfl rfl rfl (by kernel_rfl) (fun W1 hp => write_gives (W0 := W) (b := b4) (p := selfP b4) (V := V3) (l := txt rs r i) (lineOf s) (.inr rfl) (hp.pick [0, 1] (by decide) rfl) hV3 (by omega)) ?_
  intro V6 hV6
  refine wl_nil ?_
  refine zE ?_
  refine zB ?_
  refine wl_callF (X := Vec) (val := fun _ => .nilIface) (Φ := fun x => x.OK 1 (txt rs r (i + 1)).length (bc (txt rs r (i + 1)))) (capt := []) (vs := [selfP b4, .int .u8 10]) (fun x => [bldB b4 (selfP b4) (x.val (txt rs r (i + 1)).length), x.bx 5 (bc (txt rs r (i + 1)))])
    rfl rfl rfl rfl rfl rfl (by kernel_rfl) (fun W1 hp => by rw [hts]; exact byte_gives (W0 := W) (b := b4) (p := selfP b4) (V := V6) (l := txt rs r i ++ lineOf s) 10 (.inr rfl) hp hV6 (by rw [List.length_append]; omega)) ?_
  intro V7 hV7
  refine wl_nil ?_
  refine zN ?_
  refine zE ?_
  refine zB ?_
  iterate 2 refine wl_pure Tryz.hT rfl rfl rfl ?_
  refine wl_nil ?_
  exact ne_loop (i + 1, V7) ⟨hi, hV7⟩ (by show (rg rs r).length - (i + 1) < (rg rs r).length - i; omega) ⟨rfl, rfl, rfl, rfl, rfl, rfl, congrArg (fun z => some (Value.int .i64 z)) (wrap_id (x := (i : Int) + 1) (by omega) (by omega)), trivial⟩ [] rfl
theorem print_no (W : World) (p : Option Addr) (cap : Nat) (rs : List (List Sd)) (hn : rs.length < 4611686018427387904) (hT : tot rs < 1099511627776) (hR : RingsP W p rs) (hc : chk rs ≠ 0) :
    CallsR Tryz.prog 33 #[planV p rs.length cap] W (fun _ : Unit => .tuple #[str [], .int .i64 1]) (fun _ => True) (fun _ => []) := by
  refine calls_enter (args := [planV p rs.length cap]) Tryz.func33 rfl rfl rfl ?_
  refine zA ?_
  refine zB ?_
  (refine wl_box rfl rfl rfl rfl ?_; intro)
  iterate 2 refine wl_pure Tryz.hT rfl rfl rfl ?_
  refine wl_nil ?_
  refine zE ?_
  iterate 2 refine zA ?_
  refine zB ?_
  refine wl_loadBx 0 Tryz.hT rfl rfl rfl rfl rfl rfl rfl rfl ?_
  refine wl_call1 rfl rfl rfl rfl rfl rfl (by kernel_rfl) (fun W hp => check_gives W p cap rs hn hT (hR.hp hp)) ?_
  refine wl_pure Tryz.hT rfl rfl rfl ?_
  refine wl_nil ?_
  refine zE ?_
  refine wc_cond rfl (fun h => ?_) (fun h => ?_)
  · refine zA ?_
    refine zB ?_
    iterate 2 refine wl_pure Tryz.hT rfl rfl rfl ?_
    refine wl_nil ?_
    refine zE ?_
    refine zO ?_
    refine zP ?_
    exact ne_ret2 Tryz.hT rfl (.tmp rfl) (.tmp rfl) () rfl trivial fun W _ => NewBx.nil _ _
  · exact absurd (by have h' : (chk rs != 0) = false := h; simpa using h') hc
end Go.Proofs.YtnpfkmbcejgnjaaGreatDoor
namespace Go.Proofs.YtnpfkmbcejgnjaaGreatDoor
open Go Go.RowKit Go.Am Go.Lib
set_option maxRecDepth 10000
-- BOXES 3
abbrev ptrs (b : Nat) (l : List Nat) : List Value := l.map fun j => .pointer (some ⟨b, j, none⟩)
theorem setF_cells (s : Sd) {j : Nat} (hj : j = 0 ∨ j = 1 ∨ j = 2 ∨ j = 3 ∨ j = 5 ∨ j = 6) (v : Int) : splice s.cells j [.int .i64 v] = (setF s j v).cells := by
  rcases hj with rfl | rfl | rfl | rfl | rfl | rfl <;> rfl
theorem ptrs_at {l : List Nat} {b g : Nat} {e : TypeId} {W0 W : World} {bxs : List Bx} (hp : Hp W0 bxs W) (k : Nat) (hk : nth bxs k = some ⟨g, e, ptrs b l, true, none⟩) {i : Nat} (hi : i < l.length) : RowAt W g (0 + i * 1) [.pointer (some ⟨b, l.getD i 0, none⟩)] := by
  have h := RowAt.of_bx hp k hk rfl
  refine ⟨h.lt, fun j u hu => ?_⟩
  have hj : j = 0 := by have := (List.getElem?_eq_some_iff.1 hu).1; simp at this; omega
  subst hj
  have := h.get (i * 1 + 0) u (by
    show (ptrs b l)[i * 1 + 0]? = some u
    rw [show i * 1 + 0 = i by omega, List.getElem?_map, List.getElem?_eq_getElem hi, ← hu, List.getD_eq_getElem?_getD, List.getElem?_eq_getElem hi]; rfl)
  rw [Nat.zero_add] at this ⊢
  exact this
theorem str_eq (a b : List UInt8) : ((⟨a.toArray⟩ : ByteArray).toList == (⟨b.toArray⟩ : ByteArray).toList) = decide (a = b) := by
  rw [bytes_list, bytes_list]
  by_cases h : a = b
  · rw [decide_eq_true h, beq_iff_eq]; exact h
  · rw [decide_eq_false h, beq_eq_false_iff_ne]; exact h
section
variable {r : Option Nat} {n : Nat} {P : Program} {N : Nat} {D : List Deferred} {ops : List Oper} {Q : Exit → Act → World → Prop} {o : Oper} {rest : List Oper} {env : Env} {A : World → Prop}
theorem wl_nilChk {d : Nat} {x : Operand} {a : Addr} (hg : guardE ops N env o = some true) (hd : o.dst = some d) (ho : o.op = .nilCheck x) (hx : evO N env x = some (.pointer (some a)))
    (h : WL r n P N D ops Q rest ((d, .pointer (some a)) :: env) A) : WL r n P N D ops Q (o :: rest) env A :=
  wl_val hg hd (fun c e => by rw [ho] at e; cases e) (fun ρ W hρ _ => by simp [execOp, ho, hρ _ _ hx]) h
end
/-- What side tells. -/
def SideOK (l : List UInt8) (x : Sd × Bool) : Prop := (∃ s, sideP l = some s ∧ x = (s, true)) ∨ (sideP l = none ∧ x.2 = false)
set_option maxHeartbeats 16000000 in
theorem side_gives (W : World) (l : List UInt8) (hl : l.length ≤ 100000) (hv : VarsP W) (ht : TabP W) :
    CallsR Tryz.prog 83 #[str l] W (fun x : Sd × Bool => .tuple #[x.1.val, .bool x.2]) (SideOK l) (fun _ => []) := by
  refine calls_enter (args := [str l]) Tryz.func83 rfl rfl rfl ?_
  refine zA ?_
  refine zB ?_
  (refine wl_allocZ Tryz.hZ rfl rfl rfl rfl ?_; intro)
  refine wl_pure Tryz.hT rfl rfl rfl ?_
  refine wl_nil ?_
  rename_i b2
  refine zE ?_
  refine zA ?_
  refine zB ?_
  (refine wl_allocZ Tryz.hZ rfl rfl rfl rfl ?_; intro)
  refine wl_nil ?_
  rename_i b4
  refine zE ?_
  refine zA ?_
  refine zB ?_
  refine wl_pure Tryz.hT rfl rfl rfl ?_
  refine wl_call (X := Nat) rfl rfl rfl rfl rfl rfl (by kernel_rfl) (fun W hp => split_gives W l (by omega) (hv.hp hp)) ?_
  intro g _
  have hjs := join_splt 32 l
  have hws : ∀ w ∈ splt 32 l, w.length ≤ 100000 := fun w hw => by
    have h1 : w.length ≤ (join (splt 32 l) [32]).length := by
      generalize splt 32 l = ws at hw ⊢
      induction ws with
      | nil => cases hw
      | cons a r ih =>
        rcases List.mem_cons.1 hw with rfl | hw
        · rw [join_cons, List.length_append]; omega
        · cases r with
          | nil => cases hw
          | cons c r =>
            have := ih hw
            rw [join_more, List.length_append, List.length_cons]; omega
    rw [hjs] at h1
    omega
  obtain ⟨ws, hwsd⟩ : ∃ ws, ws = splt 32 l := ⟨_, rfl⟩
  rw [← hwsd] at hws ⊢
  refine wl_pure Tryz.hT rfl rfl rfl ?_
  refine wl_nil ?_
  refine zE ?_
  refine zA ?_
  refine zB ?_
  iterate 6 refine wl_pure Tryz.hT rfl rfl rfl ?_
  (refine wl_buildRowZ Tryz.hZ Tryz.hT rfl rfl rfl rfl rfl rfl rfl rfl rfl rfl rfl ?_; intro)
  refine wl_pure Tryz.hT rfl rfl rfl ?_
  refine wl_nil ?_
  rename_i b19
  have hG0 : ∀ b : Bool, (ws.length = 5 ∧ ws[2]? = some gableW ↔ b = true) → b = gabL l := fun b h => by
    unfold gabL
    rw [← hwsd]
    cases b with
    | true => exact (decide_eq_true (h.2 rfl)).symm
    | false => exact (decide_eq_false (fun e => by have := h.1 e; cases this)).symm
  refine ne_then ?_
  refine wc_cut (X := Bool × Nat × List Value) (fun x => [(2, .pointer (some ⟨b2, 0, none⟩)), (3, .bool false), (4, .pointer (some ⟨b4, 0, none⟩)), (5, .slice (some ⟨g, 0, none⟩) (wsG x.1 ws).length ws.length), (6, .slice (some ⟨x.2.1, 0, none⟩) (offsG x.1).length (offsG x.1).length)])
    (fun x => [⟨b2, 42, (sdTo false [] 0).cells, true, none⟩, ⟨b4, 42, (sdTo x.1 (wsG x.1 ws) 0).cells, true, none⟩, ⟨g, 9, ss (wsG x.1 ws) ++ x.2.2, true, none⟩, ⟨x.2.1, 152, ptrs b4 (offsG x.1), true, none⟩]) (fun x => x.1 = gabL l) ?_ ?_
  · refine zA ?_
    refine zB ?_
    iterate 4 refine wl_pure Tryz.hT rfl rfl rfl ?_
    refine wl_part 23 rfl (fun h23 => ?_) (fun h23 => ?_)
    · refine wl_pure Tryz.hT rfl rfl rfl ?_
      have h5 : ws.length = 5 := by { have h' : ((ws.length : Int) == 5) = true := h23; rw [beq_iff_eq] at h'; omega }
      refine wl_indexAddr Tryz.hT rfl rfl rfl rfl rfl rfl rfl (by omega) (by omega) ?_
      refine wl_load rfl rfl rfl rfl (fun W hp => RowAt.load 0 Tryz.hT rfl ((fun W hp => ss_at hp 2 rfl (show 2 < ws.length by omega)) W hp) rfl) ?_
      iterate 2 refine wl_pure Tryz.hT rfl rfl rfl ?_
      refine wl_nil ?_
      refine zE ?_
      have hget : ws[2]? = some (ws.getD 2 []) := by rw [List.getD_eq_getElem?_getD, List.getElem?_eq_getElem (show 2 < ws.length by omega)]; rfl
      refine wc_cond rfl (fun hx => ?_) (fun hx => ?_)
      · have hx' : ws.getD 2 [] = gableW := by
          have h' : ((⟨(ws.getD 2 []).toArray⟩ : ByteArray).toList == (⟨gableW.toArray⟩ : ByteArray).toList) = true := hx
          rw [str_eq, decide_eq_true_iff] at h'
          exact h'
        have hl4 : (wsG true ws).length = 4 := by show (ws.take 2 ++ ws.drop 3).length = 4; rw [List.length_append, List.length_take, List.length_drop]; omega
        refine zA ?_
        refine zB ?_
        refine wl_pure Tryz.hT rfl rfl rfl ?_
        refine wl_storeBx 1 Tryz.hT rfl rfl rfl rfl rfl rfl rfl rfl rfl rfl rfl ?_
        refine wl_nil ?_
        refine zE ?_
        refine zA ?_
        refine zB ?_
        refine wl_pure Tryz.hT rfl rfl rfl ?_
        refine wl_callN (X := Unit) (val := fun _ => .slice (some ⟨g, 0, none⟩) 4 5) (Φ := fun _ => True) (capt := []) (vs := [.slice (some ⟨g, 0, none⟩) 5 5, .int .i64 2, .int .i64 3]) 2 (B := ⟨g, 9, ss ws ++ [], true, none⟩) (L1 := []) (L2 := []) (b := g) (ob := .cells (ss ws ++ []).toArray 9 (0, 0))
          (fun _ => ⟨g, 9, ss (ws.take 2 ++ ws.drop 3) ++ [str []], true, none⟩) (g' := fun _ => g) (o' := fun _ => .cells (ss (ws.take 2 ++ ws.drop 3) ++ [str []]).toArray 9 (0, 0))
          rfl rfl rfl rfl rfl (by rw [← h5]; rfl) (by kernel_rfl) rfl rfl (fun _ _ => rfl) (fun W1 hp => delete_gives h5 (hp.own.cell 2 ⟨g, 9, ss ws ++ [], true, none⟩ rfl (g, .cells (ss ws ++ []).toArray 9 (0, 0)) (List.mem_cons_self ..)).1) ?_
        intro _ _
        refine wl_pure Tryz.hT rfl rfl rfl ?_
        refine wl_nil ?_
        refine zE ?_
        refine zB ?_
        iterate 4 refine wl_pure Tryz.hT rfl rfl rfl ?_
        (refine wl_buildRowZ Tryz.hZ Tryz.hT rfl rfl rfl rfl rfl rfl rfl rfl rfl rfl rfl ?_; intro)
        refine wl_pure Tryz.hT rfl rfl rfl ?_
        refine wl_nil ?_
        rename_i b36
        exact ne_cutP (true, b36, [str []]) (hG0 true ⟨fun _ => rfl, fun _ => ⟨h5, by rw [hget, hx']⟩⟩) ⟨rfl, rfl, rfl, (by show some (Value.slice (some ⟨g, 0, none⟩) 4 5) = some (.slice (some ⟨g, 0, none⟩) (wsG true ws).length ws.length); rw [hl4, h5]), rfl, trivial⟩ [0, 1, 2, 4] (by decide) rfl
      · have hx' : ws.getD 2 [] ≠ gableW := by
          have h' : ((⟨(ws.getD 2 []).toArray⟩ : ByteArray).toList == (⟨gableW.toArray⟩ : ByteArray).toList) = false := hx
          rw [str_eq, decide_eq_false_iff_not] at h'
          exact h'
        refine zI ?_
        exact ne_cutP (false, b19, []) (hG0 false ⟨fun h => absurd (Option.some.inj (hget.symm.trans h.2)) hx', fun h => by cases h⟩) ⟨rfl, rfl, rfl, rfl, rfl, trivial⟩ [0, 1, 2, 3] (by decide) rfl
    · refine wl_skip rfl rfl ?_
      iterate 3 refine wl_skip rfl rfl ?_
      refine wl_pure Tryz.hT rfl rfl rfl ?_
      refine wl_nil ?_
      refine zE ?_
      refine zS rfl ?_
      refine zI ?_
      refine ne_cutP (false, b19, []) (hG0 false ⟨fun h => ?_, fun h => by cases h⟩) ⟨rfl, rfl, rfl, rfl, rfl, trivial⟩ [0, 1, 2, 3] (by decide) rfl
      have h' : ((ws.length : Int) == 5) = false := h23
      rw [h.1] at h'; cases h'
  rintro ⟨G, bf, junk⟩ hG
  change G = gabL l at hG
  obtain ⟨wg, hwg⟩ : ∃ wg, wg = wsG G ws := ⟨_, rfl⟩
  have hwgl : ∀ w ∈ wg, w.length ≤ 100000 := fun w hw => by
    rw [hwg] at hw
    unfold wsG at hw
    split at hw
    · rcases List.mem_append.1 hw with hw | hw
      · exact hws w (List.mem_of_mem_take hw)
      · exact hws w (List.mem_of_mem_drop hw)
    · exact hws w hw
  have ewg : wsG (gabL l) (splt 32 l) = wg := by rw [hwg, ← hG, ← hwsd]
  rw [← hwg]
  iterate 2 refine zA ?_
  refine zB ?_
  iterate 5 refine wl_pure Tryz.hT rfl rfl rfl ?_
  refine wl_nil ?_
  refine zE ?_
  refine wc_cond rfl (fun hx => ?_) (fun hx => ?_)
  · have hne : wg.length ≠ (offsG G).length := fun e => by
      have h' : ((wg.length : Int) != ((offsG G).length : Nat)) = true := hx
      rw [bne_iff_ne] at h'; omega
    refine zA ?_
    refine zB ?_
    refine wl_loadBx 1 Tryz.hT rfl rfl rfl rfl rfl rfl rfl rfl ?_
    refine wl_storeBx 0 Tryz.hT rfl rfl rfl rfl rfl rfl rfl rfl rfl rfl rfl ?_
    refine wl_pure Tryz.hT rfl rfl rfl ?_
    refine wl_nil ?_
    refine zE ?_
    refine zO ?_
    refine zP ?_
    refine ne_ret2 Tryz.hT rfl (.cell 0 rfl rfl rfl rfl rfl) (.tmp rfl) (sdTo G wg 0, false) rfl (.inr ⟨sideP_len ?_, rfl⟩) fun W _ => NewBx.nil _ _
    rw [ewg, ← hG]; exact hne
  have hlen : wg.length = (offsG G).length := by
    have h' : ((wg.length : Int) != ((offsG G).length : Nat)) = false := hx
    rw [bne_eq_false_iff_eq] at h'; omega
  clear hx
  refine zI ?_
  refine zE ?_
  iterate 2 refine zA ?_
  refine zB ?_
  iterate 3 refine wl_pure Tryz.hT rfl rfl rfl ?_
  refine wl_nil ?_
  refine zE ?_
  refine zH ?_
  refine wc_loop (X := Nat) (fun k => [(2, .pointer (some ⟨b2, 0, none⟩)), (3, .bool false), (4, .pointer (some ⟨b4, 0, none⟩)), (5, .slice (some ⟨g, 0, none⟩) wg.length ws.length), (43, .slice (some ⟨bf, 0, none⟩) (offsG G).length (offsG G).length), (44, .int .i64 ((offsG G).length : Nat)), (45, .int .i64 (k : Nat))])
    (fun k => [⟨b2, 42, (sdTo false [] 0).cells, true, none⟩, ⟨b4, 42, (sdTo G wg k).cells, true, none⟩, ⟨g, 9, ss wg ++ junk, true, none⟩, ⟨bf, 152, ptrs b4 (offsG G), true, none⟩])
    (fun k => k ≤ (offsG G).length ∧ ∀ j, j < k → numW (wg.getD j []) ≠ none) (fun k => (offsG G).length - k) 0 ⟨Nat.zero_le _, fun j hj => absurd hj (Nat.not_lt_zero _)⟩ ⟨rfl, rfl, rfl, rfl, rfl, rfl, rfl, trivial⟩ [] rfl ?_
  rintro k ⟨hk, hall⟩
  have ho7 : (offsG G).length ≤ 6 := by cases G <;> decide
  refine zA ?_
  refine zB ?_
  refine wl_pure Tryz.hT rfl rfl rfl ?_
  refine wl_nil ?_
  refine zE ?_
  refine zA ?_
  refine wc_cond rfl (fun h => ?_) (fun h => ?_)
  rotate_left
  · have e : k = (offsG G).length := by have h' : decide ((k : Int) < ((offsG G).length : Nat)) = false := h; rw [decide_eq_false_iff_not] at h'; omega
    refine zJ ?_
    iterate 2 refine zK ?_
    refine zL ?_
    refine zE ?_
    refine zA ?_
    refine zB ?_
    refine wl_loadBx 1 Tryz.hT rfl rfl rfl rfl rfl rfl rfl rfl ?_
    refine wl_storeBx 0 Tryz.hT rfl rfl rfl rfl rfl rfl rfl rfl rfl rfl rfl ?_
    refine wl_pure Tryz.hT rfl rfl rfl ?_
    refine wl_nil ?_
    refine zE ?_
    refine zO ?_
    refine ne_ret2 Tryz.hT rfl (.cell 0 rfl rfl rfl rfl rfl) (.tmp rfl) (sdTo G wg k, true) rfl (.inl ⟨_, ?_, rfl⟩) fun W _ => NewBx.nil _ _
    have := sideP_all (l := l) (by rw [ewg, ← hG]; exact hlen) (fun j hj => by rw [ewg]; rw [← hG] at hj; exact hall j (by omega))
    rw [this, ewg, ← hG, e]
  have hk : k < (offsG G).length := by have h' : decide ((k : Int) < ((offsG G).length : Nat)) = true := h; rw [decide_eq_true_iff] at h'; omega
  clear h
  have hkw : k < wg.length := by omega
  have hoff := offsG_mem G hk
  have hwk : (wg.getD k []).length ≤ 100000 := hwgl _ (by rw [List.getD_eq_getElem?_getD, List.getElem?_eq_getElem hkw]; exact List.getElem_mem hkw)
  have hbad0 : numW (wg.getD k []) = none → sideP l = none := fun h => sideP_bad (k := k) (by rw [ewg]; exact hkw) (by rw [ewg]; exact h)
  obtain ⟨w, hw⟩ : ∃ w, w = wg.getD k [] := ⟨_, rfl⟩
  have hat : ∀ {bxs : List Bx} {W1 : World}, Hp W bxs W1 → nth bxs 2 = some ⟨g, 9, ss wg ++ junk, true, none⟩ → RowAt W1 g (0 + k * 1) [str w] := fun hp h2 => by rw [hw]; exact ss_at hp 2 h2 hkw
  rw [← hw] at hwk hbad0
  have hstep : ∀ n, numW w = some n → (sdTo G wg (k + 1)) = setF (sdTo G wg k) ((offsG G).getD k 0) n := fun n h => by
    show setF (sdTo G wg k) ((offsG G).getD k 0) ((numW (wg.getD k [])).getD 0) = _
    rw [← hw, h]; rfl
  refine zI ?_
  refine zE ?_
  refine zA ?_
  refine zH ?_
  refine zA ?_
  refine zB ?_
  refine wl_pure Tryz.hT rfl rfl rfl ?_
  refine wl_indexAddr Tryz.hT rfl rfl rfl rfl rfl rfl rfl (by omega) (by omega) ?_
  refine wl_load rfl rfl rfl rfl (fun W hp => RowAt.load 0 Tryz.hT rfl ((fun W hp => ptrs_at hp 3 rfl hk) W hp) rfl) ?_
  iterate 2 refine wl_pure Tryz.hT rfl rfl rfl ?_
  refine wl_nil ?_
  refine zE ?_
  refine zA ?_
  refine zB ?_
  iterate 2 refine wl_pure Tryz.hT rfl rfl rfl ?_
  refine wl_indexAddr Tryz.hT rfl rfl rfl rfl rfl rfl rfl (by omega) (by omega) ?_
  refine wl_load rfl rfl rfl rfl (fun W hp => RowAt.load 0 Tryz.hT rfl ((fun W hp => hat hp rfl) W hp) rfl) ?_
  refine wl_call (X := Int × Value) rfl rfl rfl rfl rfl rfl (by kernel_rfl) (fun W hp => atoi_any W w (by omega) (hv.hp hp)) ?_
  rintro ⟨z, ev⟩ hz
  iterate 5 refine wl_pure Tryz.hT rfl rfl rfl ?_
  refine wl_nil ?_
  rcases hz with ⟨n, hn, e⟩ | ⟨hno, a, ha⟩
  rotate_left
  · have hbad : sideP l = none := hbad0 (numW_no hno)
    change ev = _ at ha
    subst ha
    refine zE ?_
    iterate 2 refine zA ?_
    refine zT Tryz.mixed (by kernel_rfl) ?_
    refine wq_pure Tryz.hT rfl rfl rfl ?_
    refine wq_val (v := .bool true) rfl rfl (fun c e => by cases e) (fun ρ W hρ _ => neqNil_run Tryz.underlying96 rfl (hρ _ _ rfl) (hρ _ _ rfl) (.inr ⟨⟨_, _, rfl⟩, rfl⟩) W) ?_
    refine wq_pure Tryz.hT rfl rfl rfl ?_
    iterate 2 refine wq_skip rfl rfl ?_
    iterate 2 refine wq_pure Tryz.hT rfl rfl rfl ?_
    iterate 6 refine wq_skip rfl rfl ?_
    iterate 2 refine wq_pure Tryz.hT rfl rfl rfl ?_
    iterate 7 refine wq_skip rfl rfl ?_
    refine wq_pure Tryz.hT rfl rfl rfl ?_
    refine wq_nil ?_
    refine wl_nil ?_
    refine zE ?_
    refine zR rfl ?_
    refine zA ?_
    refine zB ?_
    refine wl_loadBx 1 Tryz.hT rfl rfl rfl rfl rfl rfl rfl rfl ?_
    refine wl_storeBx 0 Tryz.hT rfl rfl rfl rfl rfl rfl rfl rfl rfl rfl rfl ?_
    refine wl_pure Tryz.hT rfl rfl rfl ?_
    refine wl_nil ?_
    refine zE ?_
    refine zO ?_
    refine zP ?_
    refine zQ ?_
    iterate 2 refine zP ?_
    refine zQ ?_
    refine zP ?_
    exact ne_ret2 Tryz.hT rfl (.cell 0 rfl rfl rfl rfl rfl) (.tmp rfl) (sdTo G wg k, false) rfl (.inr ⟨hbad, rfl⟩) fun W _ => NewBx.nil _ _
  injection e with e1 e2
  subst e1 e2
  have hnum := numW_ok hn
  obtain ⟨hb1, hb2⟩ := atoiAll_bounds hn
  refine zE ?_
  iterate 2 refine zA ?_
  refine zT Tryz.mixed (by kernel_rfl) ?_
  refine wq_pure Tryz.hT rfl rfl rfl ?_
  refine wq_val (v := .bool false) rfl rfl (fun c e => by cases e) (fun ρ W hρ _ => neqNil_run Tryz.underlying96 rfl (hρ _ _ rfl) (hρ _ _ rfl) (.inl ⟨rfl, rfl⟩) W) ?_
  iterate 3 refine wq_pure Tryz.hT rfl rfl rfl ?_
  by_cases c1 : z < 0
  · have hbad : sideP l = none := hbad0 (by rw [hnum, if_pos (.inl c1)])
    refine wq_upd 62 (.bool true) rfl (congrArg Value.bool (decide_eq_true c1)) ?_
    iterate 2 refine wq_pure Tryz.hT rfl rfl rfl ?_
    iterate 6 refine wq_skip rfl rfl ?_
    iterate 2 refine wq_pure Tryz.hT rfl rfl rfl ?_
    iterate 7 refine wq_skip rfl rfl ?_
    refine wq_pure Tryz.hT rfl rfl rfl ?_
    refine wq_nil ?_
    refine wl_nil ?_
    refine zE ?_
    refine zR rfl ?_
    refine zA ?_
    refine zB ?_
    refine wl_loadBx 1 Tryz.hT rfl rfl rfl rfl rfl rfl rfl rfl ?_
    refine wl_storeBx 0 Tryz.hT rfl rfl rfl rfl rfl rfl rfl rfl rfl rfl rfl ?_
    refine wl_pure Tryz.hT rfl rfl rfl ?_
    refine wl_nil ?_
    refine zE ?_
    refine zO ?_
    refine zP ?_
    refine zQ ?_
    iterate 2 refine zP ?_
    refine zQ ?_
    refine zP ?_
    exact ne_ret2 Tryz.hT rfl (.cell 0 rfl rfl rfl rfl rfl) (.tmp rfl) (sdTo G wg k, false) rfl (.inr ⟨hbad, rfl⟩) fun W _ => NewBx.nil _ _
  refine wq_upd 62 (.bool false) rfl (congrArg Value.bool (decide_eq_false c1)) ?_
  iterate 4 refine wq_pure Tryz.hT rfl rfl rfl ?_
  refine wq_indexAddr Tryz.hT rfl rfl rfl rfl rfl rfl rfl (by omega) (by omega) ?_
  refine wq_load rfl rfl rfl rfl (fun W hp => RowAt.load 0 Tryz.hT rfl ((fun W hp => hat hp rfl) W hp) rfl) ?_
  iterate 2 refine wq_pure Tryz.hT rfl rfl rfl ?_
  have hsz : (⟨w.toArray⟩ : ByteArray).size = w.length := by show w.toArray.size = _; simp
  by_cases c2 : 9 < w.length
  · have hbad : sideP l = none := hbad0 (by rw [hnum, if_pos (.inr (.inl c2))])
    refine wq_upd 70 (.bool true) rfl (congrArg Value.bool (show decide (((⟨w.toArray⟩ : ByteArray).size : Int) > 9) = true by rw [hsz, decide_eq_true_iff]; omega)) ?_
    iterate 2 refine wq_pure Tryz.hT rfl rfl rfl ?_
    iterate 7 refine wq_skip rfl rfl ?_
    refine wq_pure Tryz.hT rfl rfl rfl ?_
    refine wq_nil ?_
    refine wl_nil ?_
    refine zE ?_
    refine zR rfl ?_
    refine zA ?_
    refine zB ?_
    refine wl_loadBx 1 Tryz.hT rfl rfl rfl rfl rfl rfl rfl rfl ?_
    refine wl_storeBx 0 Tryz.hT rfl rfl rfl rfl rfl rfl rfl rfl rfl rfl rfl ?_
    refine wl_pure Tryz.hT rfl rfl rfl ?_
    refine wl_nil ?_
    refine zE ?_
    refine zO ?_
    refine zP ?_
    refine zQ ?_
    iterate 2 refine zP ?_
    refine zQ ?_
    refine zP ?_
    exact ne_ret2 Tryz.hT rfl (.cell 0 rfl rfl rfl rfl rfl) (.tmp rfl) (sdTo G wg k, false) rfl (.inr ⟨hbad, rfl⟩) fun W _ => NewBx.nil _ _
  refine wq_upd 70 (.bool false) rfl (congrArg Value.bool (show decide (((⟨w.toArray⟩ : ByteArray).size : Int) > 9) = false by rw [hsz, decide_eq_false_iff_not]; omega)) ?_
  iterate 3 refine wq_pure Tryz.hT rfl rfl rfl ?_
  refine wq_call1 rfl rfl rfl rfl rfl rfl (by kernel_rfl) (fun W hp => itoa_gives z hb1 hb2 W (ht.hp hp)) ?_
  iterate 2 refine wq_pure Tryz.hT rfl rfl rfl ?_
  refine wq_indexAddr Tryz.hT rfl rfl rfl rfl rfl rfl rfl (by omega) (by omega) ?_
  refine wq_load rfl rfl rfl rfl (fun W hp => RowAt.load 0 Tryz.hT rfl ((fun W hp => hat hp rfl) W hp) rfl) ?_
  refine wq_pure Tryz.hT rfl rfl rfl ?_
  by_cases c3 : itoa z = w
  rotate_left
  · have hbad : sideP l = none := hbad0 (by rw [hnum, if_pos (.inr (.inr c3))])
    refine wq_upd 79 (.bool true) rfl (congrArg Value.bool (show (!((⟨(itoa z).toArray⟩ : ByteArray).toList == (⟨w.toArray⟩ : ByteArray).toList)) = true by rw [str_eq, decide_eq_false c3]; rfl)) ?_
    refine wq_pure Tryz.hT rfl rfl rfl ?_
    refine wq_nil ?_
    refine wl_nil ?_
    refine zE ?_
    refine zR rfl ?_
    refine zA ?_
    refine zB ?_
    refine wl_loadBx 1 Tryz.hT rfl rfl rfl rfl rfl rfl rfl rfl ?_
    refine wl_storeBx 0 Tryz.hT rfl rfl rfl rfl rfl rfl rfl rfl rfl rfl rfl ?_
    refine wl_pure Tryz.hT rfl rfl rfl ?_
    refine wl_nil ?_
    refine zE ?_
    refine zO ?_
    refine zP ?_
    refine zQ ?_
    iterate 2 refine zP ?_
    refine zQ ?_
    refine zP ?_
    exact ne_ret2 Tryz.hT rfl (.cell 0 rfl rfl rfl rfl rfl) (.tmp rfl) (sdTo G wg k, false) rfl (.inr ⟨hbad, rfl⟩) fun W _ => NewBx.nil _ _
  refine wq_upd 79 (.bool false) rfl (congrArg Value.bool (show (!((⟨(itoa z).toArray⟩ : ByteArray).toList == (⟨w.toArray⟩ : ByteArray).toList)) = false by rw [str_eq, decide_eq_true c3]; rfl)) ?_
  have hsome : numW w = some z := by
    rw [hnum, if_neg]
    rintro (h | h | h)
    · exact c1 h
    · exact c2 h
    · exact h c3
  refine wq_pure Tryz.hT rfl rfl rfl ?_
  refine wq_nil ?_
  refine wl_nil ?_
  refine zE ?_
  refine zS rfl ?_
  refine zI ?_
  refine zE ?_
  refine zB ?_
  iterate 2 refine wl_pure Tryz.hT rfl rfl rfl ?_
  refine wl_nilChk rfl rfl rfl rfl ?_
  refine wl_storeTo 1 (sdTo G wg (k + 1)).cells Tryz.hT rfl rfl rfl rfl rfl rfl rfl rfl rfl rfl (by show (offsG G).getD k 0 + 1 ≤ 7; omega) (by rw [hstep z hsome]; exact setF_cells _ hoff z) ?_
  refine zC ?_
  refine zN ?_
  refine zE ?_
  refine zB ?_
  iterate 2 refine wl_pure Tryz.hT rfl rfl rfl ?_
  refine wl_nil ?_
  exact ne_loop (k + 1) ⟨hk, fun j hj => by
    by_cases e : j = k
    · subst e; rw [← hw, hsome]; exact fun h => by cases h
    · exact hall j (by omega)⟩ (by omega) ⟨rfl, rfl, rfl, rfl, rfl, rfl, congrArg (fun z => some (Value.int .i64 z)) (wrap_id (x := (k : Int) + 1) (by omega) (by omega)), trivial⟩ [] rfl
end Go.Proofs.YtnpfkmbcejgnjaaGreatDoor
namespace Go.Proofs.YtnpfkmbcejgnjaaGreatDoor
open Go Go.RowKit Go.Am
set_option maxRecDepth 10000
abbrev ringO (l : List Sd) (junk : List Value) : Obj := .cells (cellsOf l ++ junk).toArray 42 (0, 0)
/-- The place of one ring's block among those of a plan that was made. -/
structure MadeAt (mk : Made) (rs : List (List Sd)) (r g cap : Nat) (junk : List Value) (L1 L2 : List (Nat × Obj)) : Prop where
  val : (rowCells mk)[r]? = some (slv (some ⟨g, 0, none⟩) (rg rs r).length cap)
  ok : (⟨some g, cap, junk⟩ : Vec).OK 7 (rg rs r).length (cellsOf (rg rs r))
  blk : mkB mk = grpB (L1 ++ (g, ringO (rg rs r) junk) :: L2)
  set : ∀ g' cap' junk' l', (⟨some g', cap', junk'⟩ : Vec).OK 7 l'.length (cellsOf l') → ∃ mk' : Made, MadeOK mk' (rs.set r l') ∧ mkB mk' = grpB (L1 ++ (g', ringO l' junk') :: L2) ∧ rowCells mk' = (rowCells mk).set r (slv (some ⟨g', 0, none⟩) l'.length cap')
/-- .. with the same block and as many sides. -/
theorem MadeAt.same {mk : Made} {rs : List (List Sd)} {r g cap : Nat} {junk : List Value} {L1 L2 : List (Nat × Obj)} (h : MadeAt mk rs r g cap junk L1 L2) {l' : List Sd} (hl : l'.length = (rg rs r).length) :
    ∃ mk' : Made, MadeOK mk' (rs.set r l') ∧ mkB mk' = grpB (L1 ++ (g, ringO l' junk) :: L2) ∧ rowCells mk' = rowCells mk := by
  have hok : (⟨some g, cap, junk⟩ : Vec).OK 7 l'.length (cellsOf l') := by
    obtain ⟨h1, h2, h3⟩ := h.ok
    refine ⟨cellsOf_length _, (fun h => by cases h), fun h => ?_⟩
    obtain ⟨a, b, c⟩ := h3 h
    refine ⟨by rw [hl]; exact a, b, ?_⟩
    rw [cellsOf_length] at c ⊢
    rw [hl]; exact c
  obtain ⟨mk', a, b, c⟩ := h.set g cap junk l' hok
  refine ⟨mk', a, b, ?_⟩
  rw [c, hl]
  have hlt := (List.getElem?_eq_some_iff.1 h.val).1
  refine List.ext_getElem? fun i => ?_
  by_cases e : i = r
  · subst e; rw [List.getElem?_set_self hlt, h.val]
  · rw [List.getElem?_set_ne (fun h => e h.symm)]
/-- What lies in the row of rings. -/
theorem row_val {W0 W : World} {bxs : List Bx} (hp : Hp W0 bxs W) (k : Nat) {g ty : Nat} {mk : Made} {junk : List Value} (hk : nth bxs k = some ⟨g, ty, rowCells mk ++ junk, true, none⟩) {r : Nat} {v : Value} (hv : (rowCells mk)[r]? = some v) : RowAt W g (0 + r * 1) [v] := by
  have h := RowAt.of_bx hp k hk rfl
  refine ⟨h.lt, fun m u hu => ?_⟩
  have hm : m = 0 ∧ u = v := by
    cases m with
    | zero => simp at hu; exact ⟨rfl, hu.symm⟩
    | succ m => simp at hu
  obtain ⟨rfl, rfl⟩ := hm
  have := h.get r u (by show (rowCells mk ++ junk)[r]? = _; rw [List.getElem?_append_left (List.getElem?_eq_some_iff.1 hv).1]; exact hv)
  rw [Nat.mul_one, Nat.zero_add, Nat.add_zero]
  rw [Nat.zero_add] at this
  exact this
end Go.Proofs.YtnpfkmbcejgnjaaGreatDoor
namespace Go.Proofs.YtnpfkmbcejgnjaaGreatDoor
open Go Go.RowKit Go.Am Go.Lib
set_option maxRecDepth 10000
-- BOXES 6
section
variable {r : Option Nat} {n : Nat} {P : Program} {W0 : World} {N : Nat} {D : List Deferred} {ops l : List Oper} {Q : Exit → Act → World → Prop} {env : Env} {bxs : List Bx}
theorem wl_join (k i : Nat) {B C : Bx} (E : Bx) (hne : Nat.beq k i = false) (hk : nth bxs k = some B) (hi : nth bxs i = some C) (hE : E.blk = C.blk ++ B.blk) (h : WL r n P N D ops Q l env (Hp W0 ((bxs.set k E).set i gone))) : WL r n P N D ops Q l env (Hp W0 bxs) := .mk fun a W ha hd hp =>
  h.out a W ha hd (hp.join (fun e => by subst e; rw [show Nat.beq k k = true from Nat.beq_refl k] at hne; cases hne) (by rw [← nth_eq]; exact hk) (by rw [← nth_eq]; exact hi) hE)
end
theorem own_none (n : Nat) (W : World) : Go.Am.Own n [gone, mkB []] W := by
  have hb : ∀ (k : Nat) (B : Bx), [gone, mkB []][k]? = some B → B.blk = [] := fun k B h => by
    cases k with
    | zero => injection h with h; rw [← h]; rfl
    | succ k => cases k with
      | zero => injection h with h; rw [← h]; rfl
      | succ k => cases h
  refine ⟨fun k B h p hp => ?_, fun k B h => ?_, fun i j B C h _ _ p hp => ?_⟩
  · rw [hb k B h] at hp; cases hp
  · rw [hb k B h]; exact List.nodup_nil
  · rw [hb i B h] at hp; cases hp
/-- What Parse gives: rings, and why not. -/
def outP (s : List UInt8) : List (List Sd) × Int := match parseF [] s with
  | none => ([], 3)
  | some rs => if chk rs = 0 then (rs, 0) else ([], chk rs)
def curL (cur : Option (Vec × List Sd)) : Made := cur.toList
def curB (cur : Option (Vec × List Sd)) : Bx := match cur with
  | none => gone
  | some (U, l) => U.bx 42 (cellsOf l)
theorem cur_blk (mk : Made) (cur : Option (Vec × List Sd)) : (mkB (mk ++ curL cur)).blk = (curB cur).blk ++ (mkB mk).blk := by
  cases cur with
  | none => show (mkB (mk ++ [])).blk = [] ++ (mkB mk).blk; rw [List.append_nil]; rfl
  | some p => exact mkB_snoc mk p.1 p.2
abbrev rgs (mk : Made) : List (List Sd) := mk.map (·.2)
theorem rows_len (mk : Made) : (rowCells mk).length = mk.length := List.length_map ..
theorem rgs_snoc (mk : Made) (U : Vec) (l : List Sd) : rgs (mk ++ [(U, l)]) = rgs mk ++ [l] := List.map_append
structure PInv (s0 : List UInt8) (mk : Made) (cur : Option (Vec × List Sd)) (V : Vec) (s : List UInt8) : Prop where
  ok : MadeOK (mk ++ curL cur) (rgs (mk ++ curL cur))
  row : V.OK 1 (mk ++ curL cur).length (rowCells (mk ++ curL cur))
  none : cur = none → mk = []
  size : (mk ++ curL cur).length + tot (rgs (mk ++ curL cur)) + s.length ≤ 65536
  par : parseF (rgs (mk ++ curL cur)) s = parseF [] s0
theorem tot_snoc (rs : List (List Sd)) (l : List Sd) : tot (rs ++ [l]) = tot rs + l.length := by simp [tot]
set_option maxHeartbeats 16000000 in
theorem parse_gives (W : World) (s0 : List UInt8) (hs0 : s0.length ≤ 65536) (hv : VarsP W) (ht : TabP W) :
    CallsR Tryz.prog 34 #[str s0] W (fun x : Vec × Made => .tuple #[.agg #[x.1.val (outP s0).1.length], .int .i64 (outP s0).2]) (fun x => MadeOK x.2 (outP s0).1 ∧ x.1.OK 1 (outP s0).1.length (rowCells x.2)) (fun x => [x.1.bx 27 (rowCells x.2), mkB x.2]) := by
  have bad : ∀ {c : Int}, outP s0 = ([], c) → ∃ x : Vec × Made, Value.tuple #[.agg #[.slice none 0 0], .int .i64 c] = (fun x : Vec × Made => Value.tuple #[.agg #[x.1.val (outP s0).1.length], .int .i64 (outP s0).2]) x ∧ (MadeOK x.2 (outP s0).1 ∧ x.1.OK 1 (outP s0).1.length (rowCells x.2)) ∧ [x.1.bx 27 (rowCells x.2), mkB x.2] = [gone, mkB []] := fun {c} h => by
    refine ⟨(Vec.empty, []), ?_, ⟨?_, ?_⟩, rfl⟩
    · simp only [h]; rfl
    · rw [h]; exact ⟨rfl, fun p hp => by cases hp⟩
    · rw [h]; exact Vec.OK.empty 1
  refine calls_enter (args := [str s0]) Tryz.func34 rfl rfl rfl ?_
  refine zA ?_
  refine zB ?_
  (refine wl_allocZ Tryz.hZ rfl rfl rfl rfl ?_; intro)
  refine wl_pure Tryz.hT rfl rfl rfl ?_
  refine wl_nil ?_
  rename_i b2
  have hsz : ∀ l : List UInt8, (⟨l.toArray⟩ : ByteArray).size = l.length := fun l => by show l.toArray.size = _; simp
  refine zE ?_
  iterate 2 refine zA ?_
  refine zB ?_
  iterate 3 refine wl_pure Tryz.hT rfl rfl rfl ?_
  refine wl_nil ?_
  refine zE ?_
  refine wc_cond rfl (fun h => ?_) (fun h => ?_)
  · have h' : decide (((⟨s0.toArray⟩ : ByteArray).size : Int) > 65536) = true := h
    rw [hsz, decide_eq_true_iff] at h'
    omega
  clear h
  refine zI ?_
  refine zE ?_
  refine zA ?_
  refine zB ?_
  (refine wl_allocZ Tryz.hZ rfl rfl rfl rfl ?_; intro)
  refine wl_nil ?_
  rename_i b4
  refine zE ?_
  refine zA ?_
  refine zH ?_
  refine wc_newGone ?_
  refine wc_newGrp ?_
  refine wc_newGone ?_
  refine wc_loop (X := Made × Option (Vec × List Sd) × Vec × List UInt8) (fun x => [(0, str x.2.2.2), (2, .pointer (some ⟨b2, 0, none⟩)), (3, .int .i64 0), (4, .pointer (some ⟨b4, 0, none⟩))])
    (fun x => [⟨b2, 24, [.slice none 0 0], true, none⟩, ⟨b4, 24, [x.2.2.1.val (x.1 ++ curL x.2.1).length], true, none⟩, x.2.2.1.bx 27 (rowCells (x.1 ++ curL x.2.1)), mkB x.1, curB x.2.1])
    (fun x => PInv s0 x.1 x.2.1 x.2.2.1 x.2.2.2) (fun x => x.2.2.2.length) ([], none, Vec.empty, s0) ⟨⟨rfl, fun p hp => by cases hp⟩, Vec.OK.empty 1, fun _ => rfl, by show 0 + 0 + s0.length ≤ _; omega, rfl⟩ ⟨rfl, rfl, rfl, rfl, trivial⟩ [] rfl ?_
  rintro ⟨mk, cur, V, s⟩ ⟨hok, hrow, hnone, hsize, hpar⟩
  simp only at hok hrow hnone hsize hpar
  iterate 2 refine zA ?_
  refine zB ?_
  iterate 2 refine wl_pure Tryz.hT rfl rfl rfl ?_
  refine wl_nil ?_
  refine zE ?_
  refine wc_cond rfl (fun h => ?_) (fun h => ?_)
  rotate_left
  · have hs : s = [] := by
      have h' : (!((⟨s.toArray⟩ : ByteArray).toList == (⟨#[]⟩ : ByteArray).toList)) = false := h
      rw [bytes_list, bytes_list []] at h'
      simpa using h'
    subst hs
    rw [parseF_nil] at hpar
    clear h
    obtain ⟨full, hfull⟩ : ∃ full, full = mk ++ curL cur := ⟨_, rfl⟩
    have hjoin := cur_blk mk cur
    rw [← hfull] at hok hrow hsize hpar hjoin ⊢
    have hlen : (rgs full).length = full.length := List.length_map ..
    rw [← hlen] at hrow ⊢
    obtain ⟨q, cap, eq, fq⟩ := made_rings hok hrow
    rw [eq]
    refine zJ ?_
    iterate 2 refine zK ?_
    refine zL ?_
    refine zE ?_
    iterate 2 refine zA ?_
    refine zB ?_
    refine wl_join 3 4 (mkB full) rfl rfl rfl hjoin ?_
    refine wl_loadBx 1 Tryz.hT rfl rfl rfl rfl rfl rfl rfl rfl ?_
    refine wl_call1 rfl rfl rfl rfl rfl rfl (by kernel_rfl) (fun W hp => check_gives W q cap (rgs full) (by omega) (by omega) (fq hp 2 3 rfl rfl)) ?_
    refine wl_pure Tryz.hT rfl rfl rfl ?_
    refine wl_nil ?_
    refine zE ?_
    refine zA ?_
    refine zB ?_
    iterate 2 refine wl_pure Tryz.hT rfl rfl rfl ?_
    refine wl_nil ?_
    refine zE ?_
    refine wc_cond rfl (fun hx => ?_) (fun hx => ?_)
    · have hc : chk (rgs full) ≠ 0 := by
        have h' : (chk (rgs full) != 0) = true := hx
        simpa using h'
      have hout : outP s0 = ([], chk (rgs full)) := by unfold outP; rw [← hpar]; show (if _ then _ else _) = _; rw [if_neg hc]
      obtain ⟨x, e1, e2, e3⟩ := bad hout
      refine zA ?_
      refine zB ?_
      refine wl_buildZ Tryz.hZ Tryz.hT rfl rfl rfl rfl rfl rfl rfl rfl ?_
      refine wl_pure Tryz.hT rfl rfl rfl ?_
      refine wl_storeBx 0 Tryz.hT rfl rfl rfl rfl rfl rfl rfl rfl rfl rfl rfl ?_
      refine wl_pure Tryz.hT rfl rfl rfl ?_
      refine wl_nil ?_
      refine zE ?_
      refine zO ?_
      refine zP ?_
      exact ne_ret2 Tryz.hT rfl (.cell 0 rfl rfl rfl rfl rfl) (.tmp rfl) x e1 e2 fun W1 hp => by rw [e3]; exact own_none _ _
    · have hc : chk (rgs full) = 0 := by
        have h' : (chk (rgs full) != 0) = false := hx
        simpa using h'
      have hout : outP s0 = (rgs full, 0) := by unfold outP; rw [← hpar]; show (if _ then _ else _) = _; rw [if_pos hc]
      refine zI ?_
      refine zE ?_
      refine zA ?_
      refine zB ?_
      refine wl_loadBx 1 Tryz.hT rfl rfl rfl rfl rfl rfl rfl rfl ?_
      refine wl_storeBx 0 Tryz.hT rfl rfl rfl rfl rfl rfl rfl rfl rfl rfl rfl ?_
      refine wl_pure Tryz.hT rfl rfl rfl ?_
      refine wl_nil ?_
      refine zE ?_
      refine zO ?_
      refine ne_ret2 Tryz.hT rfl (.cell 0 rfl rfl rfl rfl rfl) (.tmp rfl) (V, full) ?_ ?_ fun W1 hp => (hp.pick [2, 3] (by decide) rfl).own
      · simp only [hout, eq]; rfl
      · simp only [hout]; exact ⟨hok, hrow⟩
  have hs : s ≠ [] := by
    have h' : (!((⟨s.toArray⟩ : ByteArray).toList == (⟨#[]⟩ : ByteArray).toList)) = true := h
    rw [bytes_list, bytes_list []] at h'
    simpa using h'
  clear h
  rcases at_first 10 s with hm | ⟨a, b, rfl, ha⟩
  · have hout : outP s0 = ([], 3) := by unfold outP; rw [← hpar, parseF_miss hm hs]
    obtain ⟨x, e1, e2, e3⟩ := bad hout
    refine zI ?_
    refine zE ?_
    refine zH ?_
    refine zA ?_
    refine zB ?_
    refine wl_pure Tryz.hT rfl rfl rfl ?_
    refine wl_call1 rfl rfl rfl rfl rfl rfl (by kernel_rfl) (fun W hp => (cut_gives W s (by omega) (hv.hp hp)).cast (by rw [cut_miss hm])) ?_
    iterate 7 refine wl_pure Tryz.hT rfl rfl rfl ?_
    refine wl_nil ?_
    refine zE ?_
    iterate 2 refine zA ?_
    refine zB ?_
    iterate 2 refine wl_pure Tryz.hT rfl rfl rfl ?_
    refine wl_nil ?_
    refine zE ?_
    refine zR rfl ?_
    refine zA ?_
    refine zB ?_
    refine wl_buildZ Tryz.hZ Tryz.hT rfl rfl rfl rfl rfl rfl rfl rfl ?_
    refine wl_storeBx 0 Tryz.hT rfl rfl rfl rfl rfl rfl rfl rfl rfl rfl rfl ?_
    refine wl_pure Tryz.hT rfl rfl rfl ?_
    refine wl_nil ?_
    refine zE ?_
    refine zO ?_
    refine zP ?_
    refine zQ ?_
    refine zP ?_
    refine zQ ?_
    refine zP ?_
    exact ne_ret2 Tryz.hT rfl (.cell 0 rfl rfl rfl rfl rfl) (.tmp rfl) x e1 e2 fun W1 hp => by rw [e3]; exact own_none _ _
  rw [parseF_at b ha] at hpar
  have hlab : (a ++ 10 :: b).length = a.length + b.length + 1 := by rw [List.length_append, List.length_cons]; omega
  rw [hlab] at hsize
  refine zI ?_
  refine zE ?_
  refine zH ?_
  refine zA ?_
  refine zB ?_
  refine wl_pure Tryz.hT rfl rfl rfl ?_
  refine wl_call1 rfl rfl rfl rfl rfl rfl (by kernel_rfl) (fun W hp => (cut_gives W (a ++ 10 :: b) (by rw [hlab]; omega) (hv.hp hp)).cast (by rw [cut_at b ha])) ?_
  iterate 7 refine wl_pure Tryz.hT rfl rfl rfl ?_
  refine wl_nil ?_
  refine zE ?_
  iterate 2 refine zA ?_
  refine zB ?_
  iterate 2 refine wl_pure Tryz.hT rfl rfl rfl ?_
  refine wl_nil ?_
  refine zE ?_
  refine zS rfl ?_
  refine zI ?_
  refine zE ?_
  refine zA ?_
  refine zB ?_
  iterate 2 refine wl_pure Tryz.hT rfl rfl rfl ?_
  refine wl_nil ?_
  refine zE ?_
  iterate 2 refine zA ?_
  refine zB ?_
  iterate 2 refine wl_pure Tryz.hT rfl rfl rfl ?_
  refine wl_nil ?_
  refine zE ?_
  refine wc_cond rfl (fun hx => ?_) (fun hx => ?_)
  · have hr : a = ringW := by
      have h' : ((⟨a.toArray⟩ : ByteArray).toList == (⟨ringW.toArray⟩ : ByteArray).toList) = true := hx
      rw [str_eq, decide_eq_true_iff] at h'
      exact h'
    rw [if_pos hr] at hpar
    obtain ⟨full, hfull⟩ : ∃ full, full = mk ++ curL cur := ⟨_, rfl⟩
    have hjoin := cur_blk mk cur
    rw [← hfull] at hok hrow hsize hpar hjoin ⊢
    refine zA ?_
    refine zB ?_
    refine wl_pure Tryz.hT rfl rfl rfl ?_
    refine wl_loadBx 1 Tryz.hT rfl rfl rfl rfl rfl rfl rfl rfl ?_
    (refine wl_buildRowZ Tryz.hZ Tryz.hT rfl rfl rfl rfl rfl rfl rfl rfl rfl rfl rfl ?_; intro)
    rename_i b32
    refine wl_appendTo (V := V) (len := full.length) (xs := rowCells full) 2 5 Tryz.vec22 (full ++ [(Vec.empty, [])]).length (rowCells (full ++ [(Vec.empty, [])])) rfl rfl rfl rfl rfl rfl rfl rfl rfl rfl rfl hrow rfl rfl (by rw [List.length_append]; rfl) (by rw [rowCells_snoc]; rfl) (by rw [List.length_append, List.length_singleton]; simp only [maxLen]; omega) (by rw [List.length_append, List.length_singleton]; omega) rfl ?_
    intro g c1 j1 hV1
    refine wl_pure Tryz.hT rfl rfl rfl ?_
    refine wl_storeBx 1 Tryz.hT rfl rfl rfl rfl rfl rfl rfl rfl rfl rfl rfl ?_
    refine wl_nil ?_
    refine ne_join 3 4 (mkB full) rfl rfl rfl hjoin ?_
    refine zE ?_
    refine zJ ?_
    refine zK ?_
    refine zL ?_
    refine ne_loop (full, some (Vec.empty, []), ⟨some g, c1, j1⟩, b) ⟨?_, hV1, fun h => (by cases h), ?_, ?_⟩ (by show b.length < (a ++ 10 :: b).length; omega) ⟨rfl, rfl, rfl, rfl, trivial⟩ [_] rfl
    · show MadeOK (full ++ [(Vec.empty, [])]) (rgs (full ++ [(Vec.empty, [])]))
      rw [rgs_snoc]; exact hok.snoc (Vec.OK.empty 7)
    · show (full ++ [(Vec.empty, [])]).length + tot (rgs (full ++ [(Vec.empty, [])])) + b.length ≤ 65536
      rw [rgs_snoc, tot_snoc, List.length_append, List.length_singleton, List.length_nil]; omega
    · show parseF (rgs (full ++ [(Vec.empty, [])])) b = _
      rw [rgs_snoc]; exact hpar
  have hr : a ≠ ringW := by
    have h' : ((⟨a.toArray⟩ : ByteArray).toList == (⟨ringW.toArray⟩ : ByteArray).toList) = false := hx
    rw [str_eq, decide_eq_false_iff_not] at h'
    exact h'
  clear hx
  rw [if_neg hr] at hpar
  refine zI ?_
  refine zE ?_
  refine zA ?_
  refine zB ?_
  refine wl_pure Tryz.hT rfl rfl rfl ?_
  refine wl_call (X := Sd × Bool) rfl rfl rfl rfl rfl rfl (by kernel_rfl) (fun W hp => side_gives W a (by omega) (hv.hp hp) (ht.hp hp)) ?_
  rintro ⟨sx, okb⟩ hside
  iterate 3 refine wl_pure Tryz.hT rfl rfl rfl ?_
  (refine wl_allocZ Tryz.hZ rfl rfl rfl rfl ?_; intro)
  refine wl_storeBx 5 Tryz.hT rfl rfl rfl rfl rfl rfl rfl rfl rfl rfl rfl ?_
  refine wl_pure Tryz.hT rfl rfl rfl ?_
  refine wl_nil ?_
  rename_i b8
  rcases hside with ⟨sy, hx, e⟩ | ⟨hx, e⟩
  rotate_left
  · change okb = false at e
    subst e
    rw [hx] at hpar
    have hout : outP s0 = ([], 3) := by unfold outP; rw [← hpar]
    obtain ⟨x, e1, e2, e3⟩ := bad hout
    refine zE ?_
    iterate 2 refine zA ?_
    refine zB ?_
    iterate 3 refine wl_pure Tryz.hT rfl rfl rfl ?_
    iterate 4 refine wl_skip rfl rfl ?_
    refine wl_pure Tryz.hT rfl rfl rfl ?_
    refine wl_nil ?_
    refine zE ?_
    refine zR rfl ?_
    refine zA ?_
    refine zB ?_
    refine wl_buildZ Tryz.hZ Tryz.hT rfl rfl rfl rfl rfl rfl rfl rfl ?_
    refine wl_storeBx 0 Tryz.hT rfl rfl rfl rfl rfl rfl rfl rfl rfl rfl rfl ?_
    refine wl_pure Tryz.hT rfl rfl rfl ?_
    refine wl_nil ?_
    refine zE ?_
    refine zO ?_
    refine zP ?_
    refine zQ ?_
    refine zP ?_
    refine zQ ?_
    refine zP ?_
    exact ne_ret2 Tryz.hT rfl (.cell 0 rfl rfl rfl rfl rfl) (.tmp rfl) x e1 e2 fun W1 hp => by rw [e3]; exact own_none _ _
  injection e with e4 e5
  subst e4 e5
  rw [hx] at hpar
  cases cur with
  | none =>
    have hmk := hnone rfl
    subst hmk
    have hout : outP s0 = ([], 3) := by unfold outP; rw [← hpar]; rfl
    obtain ⟨x, e1, e2, e3⟩ := bad hout
    obtain ⟨pv, cv, jv⟩ := V
    cases pv with
    | none =>
      refine zE ?_
      iterate 2 refine zA ?_
      refine zB ?_
      iterate 4 refine wl_pure Tryz.hT rfl rfl rfl ?_
      refine wl_loadBx 1 Tryz.hT rfl rfl rfl rfl rfl rfl rfl rfl ?_
      iterate 2 refine wl_pure Tryz.hT rfl rfl rfl ?_
      refine wl_upd 46 (.bool true) rfl rfl ?_
      refine wl_pure Tryz.hT rfl rfl rfl ?_
      refine wl_nil ?_
      refine zE ?_
      refine zR rfl ?_
      refine zA ?_
      refine zB ?_
      refine wl_buildZ Tryz.hZ Tryz.hT rfl rfl rfl rfl rfl rfl rfl rfl ?_
      refine wl_storeBx 0 Tryz.hT rfl rfl rfl rfl rfl rfl rfl rfl rfl rfl rfl ?_
      refine wl_pure Tryz.hT rfl rfl rfl ?_
      refine wl_nil ?_
      refine zE ?_
      refine zO ?_
      refine zP ?_
      refine zQ ?_
      refine zP ?_
      refine zQ ?_
      refine zP ?_
      exact ne_ret2 Tryz.hT rfl (.cell 0 rfl rfl rfl rfl rfl) (.tmp rfl) x e1 e2 fun W1 hp => by rw [e3]; exact own_none _ _
    | some g =>
      refine zE ?_
      iterate 2 refine zA ?_
      refine zB ?_
      iterate 4 refine wl_pure Tryz.hT rfl rfl rfl ?_
      refine wl_loadBx 1 Tryz.hT rfl rfl rfl rfl rfl rfl rfl rfl ?_
      iterate 2 refine wl_pure Tryz.hT rfl rfl rfl ?_
      refine wl_upd 46 (.bool true) rfl rfl ?_
      refine wl_pure Tryz.hT rfl rfl rfl ?_
      refine wl_nil ?_
      refine zE ?_
      refine zR rfl ?_
      refine zA ?_
      refine zB ?_
      refine wl_buildZ Tryz.hZ Tryz.hT rfl rfl rfl rfl rfl rfl rfl rfl ?_
      refine wl_storeBx 0 Tryz.hT rfl rfl rfl rfl rfl rfl rfl rfl rfl rfl rfl ?_
      refine wl_pure Tryz.hT rfl rfl rfl ?_
      refine wl_nil ?_
      refine zE ?_
      refine zO ?_
      refine zP ?_
      refine zQ ?_
      refine zP ?_
      refine zQ ?_
      refine zP ?_
      exact ne_ret2 Tryz.hT rfl (.cell 0 rfl rfl rfl rfl rfl) (.tmp rfl) x e1 e2 fun W1 hp => by rw [e3]; exact own_none _ _
  | some p =>
  obtain ⟨U, l⟩ := p
  change MadeOK (mk ++ [(U, l)]) (rgs (mk ++ [(U, l)])) at hok
  change V.OK 1 (mk ++ [(U, l)]).length (rowCells (mk ++ [(U, l)])) at hrow
  change (mk ++ [(U, l)]).length + tot (rgs (mk ++ [(U, l)])) + (a.length + b.length + 1) ≤ 65536 at hsize
  change (if rgs (mk ++ [(U, l)]) = [] then none else parseF ((rgs (mk ++ [(U, l)])).dropLast ++ [(rgs (mk ++ [(U, l)])).getLastD [] ++ [sx]]) b) = parseF [] s0 at hpar
  rw [rgs_snoc, if_neg (by simp), List.dropLast_concat] at hpar
  have hlast : (rgs mk ++ [l]).getLastD [] = l := by simp
  rw [hlast] at hpar
  have hnl : (mk ++ [(U, l)]).length = mk.length + 1 := by rw [List.length_append]; rfl
  rw [rgs_snoc, tot_snoc] at hsize
  have hUok : U.OK 7 l.length (cellsOf l) := hok.ok (U, l) (List.mem_append_right _ (List.mem_singleton.2 rfl))
  obtain ⟨pv, cv, jv⟩ := V
  cases pv with
  | none => have := hrow.nil rfl; omega
  | some g =>
  refine zE ?_
  iterate 2 refine zA ?_
  refine zB ?_
  iterate 4 refine wl_pure Tryz.hT rfl rfl rfl ?_
  refine wl_loadBx 1 Tryz.hT rfl rfl rfl rfl rfl rfl rfl rfl ?_
  iterate 2 refine wl_pure Tryz.hT rfl rfl rfl ?_
  refine wl_upd 46 (.bool false) rfl (congrArg Value.bool (show ((((mk ++ [(U, l)]).length : Nat) : Int) == 0) = false by rw [beq_eq_false_iff_ne]; omega)) ?_
  refine wl_pure Tryz.hT rfl rfl rfl ?_
  refine wl_nil ?_
  refine zE ?_
  refine zS rfl ?_
  refine zI ?_
  refine zE ?_
  refine zA ?_
  refine zB ?_
  refine wl_pure Tryz.hT rfl rfl rfl ?_
  refine wl_loadBx 1 Tryz.hT rfl rfl rfl rfl rfl rfl rfl rfl ?_
  iterate 2 refine wl_pure Tryz.hT rfl rfl rfl ?_
  refine wl_upd 52 (.int .i64 (mk.length : Nat)) rfl (congrArg (Value.int .i64) (show w64 ((((mk ++ [(U, l)]).length : Nat) : Int) - 1) = (mk.length : Nat) by rw [w64_id (by omega) (by omega)]; omega)) ?_
  refine wl_pure Tryz.hT rfl rfl rfl ?_
  refine wl_nil ?_
  have hrc : rowCells (mk ++ [(U, l)]) = rowCells mk ++ [U.val l.length] := rowCells_snoc mk U l
  have hval : (rowCells (mk ++ [(U, l)]))[mk.length]? = some (U.val l.length) := by rw [hrc, List.getElem?_append_right (by rw [rows_len]; exact Nat.le_refl _), rows_len, Nat.sub_self]; rfl
  have hfit := (hrow.cap (by simp)).2.2
  simp only at hfit
  have hl1 : (l ++ [sx]).length = l.length + 1 := by rw [List.length_append]; rfl
  have hcl : cellsOf (l ++ [sx]) = cellsOf l ++ sx.cells := by rw [cellsOf_append]; simp [cellsOf]
  refine zE ?_
  repeat refine wc_seq ?_
  refine wc_lateY (X := { x : Nat × Nat × List Value // (⟨some x.1, x.2.1, x.2.2⟩ : Vec).OK 7 (l ++ [sx]).length (cellsOf (l ++ [sx])) }) [true, true, true, true, true, true, true, true, true, false, false, false, false] (fun _ => [(0, str b), (2, .pointer (some ⟨b2, 0, none⟩)), (3, .int .i64 0), (4, .pointer (some ⟨b4, 0, none⟩))])
    (fun x => [⟨b2, 24, [.slice none 0 0], true, none⟩, ⟨b4, 24, [.slice (some ⟨g, 0, none⟩) (mk ++ [(U, l)]).length cv], true, none⟩, ⟨g, 27, rowCells (mk ++ [((⟨some x.1.1, x.1.2.1, x.1.2.2⟩ : Vec), l ++ [sx])]) ++ jv, true, none⟩, mkB mk, ⟨x.1.1, 42, cellsOf (l ++ [sx]) ++ x.1.2.2, true, none⟩])
    4 [⟨b2, 24, [.slice none 0 0], true, none⟩, ⟨b4, 24, [.slice (some ⟨g, 0, none⟩) (mk ++ [(U, l)]).length cv], true, none⟩, ⟨g, 27, rowCells (mk ++ [(U, l)]) ++ jv, true, none⟩, mkB mk, gone, ⟨b8, 42, sx.cells, true, none⟩] Tryz.mixed (by kernel_rfl) ?_ ?_
  · refine wq_pure Tryz.hT rfl rfl rfl ?_
    refine wq_loadBx 1 Tryz.hT rfl rfl rfl rfl rfl rfl rfl rfl ?_
    iterate 2 refine wq_pure Tryz.hT rfl rfl rfl ?_
    refine wq_loadBx 1 Tryz.hT rfl rfl rfl rfl rfl rfl rfl rfl ?_
    refine wq_pure Tryz.hT rfl rfl rfl ?_
    refine wq_indexAddr Tryz.hT rfl rfl rfl rfl rfl rfl rfl (by omega) (by omega) ?_
    refine wq_load rfl rfl rfl rfl (fun W hp => RowAt.load 0 Tryz.hT rfl ((fun W1 hp => row_val hp 2 rfl hval) W hp) rfl) ?_
    refine wq_loadBx 5 Tryz.hT rfl rfl rfl rfl rfl rfl rfl rfl ?_
    refine wq_wt ?_
    refine wt_step rfl rfl (by ((repeat (first | refine Weak.same ?_ | refine Weak.off rfl ?_)); exact trivial)) ?_
    refine RS.cons ?_ (RS.nil)
    (refine wl_buildRowZ Tryz.hZ Tryz.hT rfl rfl rfl rfl rfl rfl rfl rfl rfl rfl rfl ?_; intro)
    refine wl_nil ?_
    refine ne_wt ?_
    refine wt_step rfl rfl (by ((repeat (first | refine Weak.same ?_ | refine Weak.off rfl ?_)); exact trivial)) ?_
    refine RS.cons ?_ (RS.nil)
    refine wl_appendTo (V := U) (len := l.length) (xs := cellsOf l) 4 6 Tryz.vec27 (l ++ [sx]).length (cellsOf (l ++ [sx])) rfl rfl rfl rfl rfl rfl rfl rfl rfl rfl rfl hUok rfl rfl hl1.symm (by rw [hcl]; rfl) (by rw [hl1]; simp only [maxLen]; omega) (by rw [hl1]; omega) rfl ?_; intro gU cU jU hU'
    refine wl_nil ?_
    refine ne_wt ?_
    refine wt_step rfl rfl (by ((repeat (first | refine Weak.same ?_ | refine Weak.off rfl ?_)); exact trivial)) ?_
    refine RS.cons ?_ (RS.nil)
    refine wl_indexAddr Tryz.hT rfl rfl rfl rfl rfl rfl rfl (by omega) (by omega) ?_
    refine wl_nil ?_
    refine ne_wt ?_
    refine wt_step rfl rfl (by ((repeat (first | refine Weak.same ?_ | refine Weak.off rfl ?_)); exact trivial)) ?_
    refine RS.cons ?_ (RS.nil)
    refine wl_storeTo 2 (rowCells (mk ++ [((⟨some gU, cU, jU⟩ : Vec), l ++ [sx])]) ++ jv) Tryz.hT rfl rfl rfl rfl rfl rfl rfl rfl rfl rfl (by show 0 + mk.length * 1 + 1 ≤ (rowCells (mk ++ [(U, l)]) ++ jv).length; rw [List.length_append, rows_len]; omega) (by show splice (rowCells (mk ++ [(U, l)]) ++ jv) (0 + mk.length * 1) [.slice (some ⟨gU, 0, none⟩) (l ++ [sx]).length cU] = _; rw [hrc, rowCells_snoc, List.append_assoc, List.append_assoc, Nat.zero_add, Nat.mul_one, ← rows_len mk]; exact splice_mid (rowCells mk) [U.val l.length] jv [(⟨some gU, cU, jU⟩ : Vec).val (l ++ [sx]).length] rfl) ?_
    refine wl_nil ?_
    refine ne_wt ?_
    refine wt_doneF rfl (by kernel_rfl) ?_
    exact ne_late ⟨(gU, cU, jU), hU'⟩ ⟨rfl, rfl, rfl, rfl, trivial⟩ [0, 1, 2, 3, 4] (by decide) rfl
  rintro ⟨⟨gU, cU, jU⟩, hU'⟩
  change (⟨some gU, cU, jU⟩ : Vec).OK 7 (l ++ [sx]).length (cellsOf (l ++ [sx])) at hU'
  refine zN ?_
  have hnl2 : (mk ++ [((⟨some gU, cU, jU⟩ : Vec), l ++ [sx])]).length = (mk ++ [(U, l)]).length := by rw [List.length_append, List.length_append]; rfl
  refine ne_loop (mk, some (⟨some gU, cU, jU⟩, l ++ [sx]), ⟨some g, cv, jv⟩, b) ⟨?_, ?_, fun h => (by cases h), ?_, ?_⟩ (by show b.length < (a ++ 10 :: b).length; omega) ⟨rfl, rfl, rfl, rfl, trivial⟩ [] ?_
  · show MadeOK (mk ++ [((⟨some gU, cU, jU⟩ : Vec), l ++ [sx])]) (rgs (mk ++ [((⟨some gU, cU, jU⟩ : Vec), l ++ [sx])]))
    refine ⟨rfl, fun p hp => ?_⟩
    rcases List.mem_append.1 hp with hp | hp
    · exact hok.ok p (List.mem_append_left _ hp)
    · obtain rfl := List.mem_singleton.1 hp; exact hU'
  · show (⟨some g, cv, jv⟩ : Vec).OK 1 (mk ++ [((⟨some gU, cU, jU⟩ : Vec), l ++ [sx])]).length (rowCells (mk ++ [((⟨some gU, cU, jU⟩ : Vec), l ++ [sx])]))
    have hr1 := rows_len (mk ++ [((⟨some gU, cU, jU⟩ : Vec), l ++ [sx])])
    have hr2 := rows_len (mk ++ [(U, l)])
    have hcp := hrow.cap (by simp)
    refine ⟨by rw [hr1, Nat.mul_one], fun h => (by cases h), fun _ => ⟨by rw [hnl2]; exact hcp.1, hcp.2.1, by rw [hr1, hnl2, ← hr2]; exact hcp.2.2⟩⟩
  · show (mk ++ [((⟨some gU, cU, jU⟩ : Vec), l ++ [sx])]).length + tot (rgs (mk ++ [((⟨some gU, cU, jU⟩ : Vec), l ++ [sx])])) + b.length ≤ 65536
    rw [rgs_snoc, tot_snoc, hnl2, hl1]; omega
  · show parseF (rgs (mk ++ [((⟨some gU, cU, jU⟩ : Vec), l ++ [sx])])) b = _
    rw [rgs_snoc]; exact hpar
  · show _ = [_, (⟨b4, 24, [.slice (some ⟨g, 0, none⟩) (mk ++ [((⟨some gU, cU, jU⟩ : Vec), l ++ [sx])]).length cv], true, none⟩ : Bx), _, _, _] ++ []
    rw [hnl2]; rfl
end Go.Proofs.YtnpfkmbcejgnjaaGreatDoor
namespace Go.Proofs.YtnpfkmbcejgnjaaGreatDoor
open Go Go.RowKit Go.Am Go.Lib
set_option maxRecDepth 10000
-- BOXES 5
section
variable {r : Option Nat} {n : Nat} {N : Nat} {D : List Deferred} {ops : List Oper} {Q : Exit → Act → World → Prop} {o : Oper} {rest : List Oper} {env : Env} {A : World → Prop}
theorem wl_arr {d : Nat} {a b : Int} (hg : guardE ops N env o = some true) (hd : o.dst = some d) (ho : o.op = .build 127 #[(0, .const (.int .i64 a)), (1, .const (.int .i64 b))])
    (h : WL r n Tryz.prog N D ops Q rest ((d, .agg #[.int .i64 a, .int .i64 b]) :: env) A) : WL r n Tryz.prog N D ops Q (o :: rest) env A :=
  wl_val hg hd (fun c e => by rw [ho] at e; cases e) (fun ρ W hρ _ => by
    have hz : (zeroValue 127).run Tryz.prog W = .ok (.agg #[.int .i64 0, .int .i64 0]) W := Tryz.hZ.get rfl W
    have e1 : ρ (.const (.int .i64 a)) = .int .i64 a := hρ _ _ rfl
    have e2 : ρ (.const (.int .i64 b)) = .int .i64 b := hρ _ _ rfl
    simp [execOp, ho, Instr.build, hz, run_underlying Tryz.underlying127, Tryz.sizeOf3, e1, e2, Instr.fill, Value.cells, List.zipIdx]) h
theorem wl_idxArr {d : Nat} {x : Operand} {k : Nat} {b off : Nat} (hg : guardE ops N env o = some true) (hd : o.dst = some d) (ho : o.op = .indexAddr 127 x (.const (.int .i64 (k : Nat)))) (hk : k < 2)
    (hx : evO N env x = some (.pointer (some ⟨b, off, none⟩))) (h : WL r n Tryz.prog N D ops Q rest ((d, .pointer (some ⟨b, off + k, none⟩)) :: env) A) : WL r n Tryz.prog N D ops Q (o :: rest) env A :=
  wl_val hg hd (fun c e => by rw [ho] at e; cases e) (fun ρ W hρ _ => by
    have e1 : ρ (.const (.int .i64 (k : Nat))) = .int .i64 (k : Nat) := hρ _ _ rfl
    simp [execOp, ho, Instr.indexAt, Instr.sureAddr, asIntOf, hρ _ _ hx, e1, run_underlying Tryz.underlying127, Tryz.sizeOf3, Addr.add_none]
    exact fun h => absurd h (by omega)) h
end
def exPts : List (Int × Int) := [(0, 0), (10, 0), (10, 4), (4, 4), (4, 8), (0, 8)]
def exSd (q : Int × Int) : Sd := ⟨q.1, q.2, 1, 1, false, 3, 0⟩
def exRing : List Sd := exPts.map exSd
def ptc (q : Int × Int) : List Value := [.int .i64 q.1, .int .i64 q.2]
theorem Own.blk_congr {n : Nat} {l l' : List Bx} {W : World} (h : Go.Am.Own n l W) (e : l'.map Bx.blk = l.map Bx.blk) : Go.Am.Own n l' W := by
  have key : ∀ {k : Nat} {B : Bx}, l'[k]? = some B → ∃ C, l[k]? = some C ∧ C.blk = B.blk := fun {k B} hk => by
    have h1 : (l'.map Bx.blk)[k]? = some B.blk := by rw [List.getElem?_map, hk]; rfl
    rw [e, List.getElem?_map] at h1
    cases hc : l[k]? with
    | none => rw [hc] at h1; cases h1
    | some C => rw [hc] at h1; exact ⟨C, rfl, Option.some.inj h1⟩
  refine ⟨fun k B hk p hp => ?_, fun k B hk => ?_, fun i j B C hi hj hne p hp q hq => ?_⟩
  · obtain ⟨C, h1, h2⟩ := key hk
    exact h.cell k C h1 p (h2 ▸ hp)
  · obtain ⟨C, h1, h2⟩ := key hk
    rw [← h2]; exact h.nd k C h1
  · obtain ⟨B', h1, h2⟩ := key hi
    obtain ⟨C', h3, h4⟩ := key hj
    exact h.apart i j B' C' h1 h3 hne p (h2 ▸ hp) q (h4 ▸ hq)
set_option maxHeartbeats 4000000 in
theorem example_gives (W : World) : CallsR Tryz.prog 47 #[] W (fun x : Vec × Made => .agg #[x.1.val 1]) (fun x => MadeOK x.2 [exRing] ∧ x.1.OK 1 1 (rowCells x.2)) (fun x => [x.1.bx 27 (rowCells x.2), mkB x.2]) := by
  refine calls_enter (args := []) Tryz.func47 rfl rfl rfl ?_
  refine zA ?_
  refine zB ?_
  (refine wl_allocZ Tryz.hZ rfl rfl rfl rfl ?_; intro)
  refine wl_nil ?_
  rename_i b0
  refine zE ?_
  refine zA ?_
  refine zB ?_
  refine wl_pure Tryz.hT rfl rfl rfl ?_
  refine wl_nil ?_
  refine zE ?_
  iterate 2 refine zA ?_
  refine zB ?_
  iterate 6 refine wl_arr rfl rfl rfl ?_
  (refine wl_buildRowZ Tryz.hZ Tryz.hT rfl rfl rfl rfl rfl rfl rfl rfl rfl rfl rfl ?_; intro)
  rename_i b10
  iterate 2 refine wl_pure Tryz.hT rfl rfl rfl ?_
  refine wl_nil ?_
  refine zE ?_
  refine zH ?_
  refine wc_newGone ?_
  refine wc_loop (X := Nat × Vec) (fun x => [(0, .pointer (some ⟨b0, 0, none⟩)), (1, x.2.val x.1), (10, slv (some ⟨b10, 0, none⟩) 6 6), (11, .int .i64 6), (12, .int .i64 (x.1 : Nat))]) (fun x => [⟨b0, 24, [.slice none 0 0], true, none⟩, ⟨b10, 127, exPts.flatMap ptc, true, none⟩, x.2.bx 42 (cellsOf (exRing.take x.1))])
    (fun x => x.1 ≤ 6 ∧ x.2.OK 7 x.1 (cellsOf (exRing.take x.1))) (fun x => 6 - x.1) (0, Vec.empty) ⟨Nat.zero_le _, Vec.OK.empty 7⟩ ⟨rfl, rfl, rfl, rfl, rfl, trivial⟩ [] rfl ?_
  rintro ⟨k, V⟩ ⟨hk0, hV0⟩
  have hk : k ≤ 6 := hk0
  have hV : V.OK 7 k (cellsOf (exRing.take k)) := hV0
  clear hk0 hV0
  refine zA ?_
  refine zB ?_
  refine wl_pure Tryz.hT rfl rfl rfl ?_
  refine wl_nil ?_
  refine zE ?_
  refine zA ?_
  refine wc_cond rfl (fun h => ?_) (fun h => ?_)
  · have hk : k < 6 := by simp at h; omega
    clear h
    obtain ⟨q, hq⟩ : ∃ q, exPts[k]? = some q := ⟨_, List.getElem?_eq_getElem (show k < exPts.length from hk)⟩
    have ht : exRing.take (k + 1) = exRing.take k ++ [exSd q] := by
      rw [List.take_add_one]
      congr 1
      show (exPts.map exSd)[k]?.toList = _
      rw [List.getElem?_map, hq]; rfl
    have hc : cellsOf (exRing.take (k + 1)) = cellsOf (exRing.take k) ++ (exSd q).cells := by rw [ht, cellsOf_append]; simp [cellsOf]
    refine zI ?_
    refine zE ?_
    refine zA ?_
    refine zH ?_
    refine zA ?_
    refine zB ?_
    refine wl_indexAddr Tryz.hT rfl rfl rfl rfl rfl rfl rfl (by omega) (by omega) ?_
    refine wl_load rfl rfl rfl rfl (fun W hp => RowAt.load 0 Tryz.hT rfl ((fun W hp => Vec.rowAt (f := ptc) (n := 2) (cap := 6) (junk := []) (fun _ => rfl) hp 1 rfl hq) W hp) rfl) ?_
    (refine wl_allocZ Tryz.hZ rfl rfl rfl rfl ?_; intro)
    refine wl_storeBx 3 Tryz.hT rfl rfl rfl rfl rfl rfl rfl rfl rfl rfl rfl ?_
    refine wl_nil ?_
    rename_i b3
    refine zE ?_
    refine zB ?_
    refine wl_pure Tryz.hT rfl rfl rfl ?_
    refine wl_idxArr (k := 0) rfl rfl rfl (by decide) rfl ?_
    refine wl_loadBx 3 Tryz.hT rfl rfl rfl rfl rfl rfl rfl rfl ?_
    refine wl_idxArr (k := 1) rfl rfl rfl (by decide) rfl ?_
    refine wl_loadBx 3 Tryz.hT rfl rfl rfl rfl rfl rfl rfl rfl ?_
    refine wl_buildZ Tryz.hZ Tryz.hT rfl rfl rfl rfl rfl rfl rfl rfl ?_
    (refine wl_buildRowZ Tryz.hZ Tryz.hT rfl rfl rfl rfl rfl rfl rfl rfl rfl rfl rfl ?_; intro)
    refine wl_appendTo (V := V) (len := k) (xs := cellsOf (exRing.take k)) 2 4 Tryz.vec27 (k + 1) (cellsOf (exRing.take (k + 1))) rfl rfl rfl rfl rfl rfl rfl rfl rfl rfl rfl hV rfl rfl rfl (by rw [hc]; rfl) (by simp only [maxLen]; omega) (by omega) rfl ?_
    intro g c1 j1 hV1
    refine wl_pure Tryz.hT rfl rfl rfl ?_
    refine wl_nil ?_
    refine zN ?_
    refine zE ?_
    refine zB ?_
    iterate 2 refine wl_pure Tryz.hT rfl rfl rfl ?_
    refine wl_nil ?_
    exact ne_loop (k + 1, ⟨some g, c1, j1⟩) ⟨hk, hV1⟩ (by show 6 - (k + 1) < 6 - k; omega) ⟨rfl, rfl, rfl, rfl, congrArg (fun z => some (Value.int .i64 z)) (wrap_id (x := (k : Int) + 1) (by omega) (by omega)), trivial⟩ [_, _] rfl
  · have e : k = 6 := by simp at h; omega
    subst e
    obtain ⟨p, c, j⟩ := V
    cases p with
    | none => exact absurd (hV.nil rfl) (by decide)
    | some g =>
    refine zJ ?_
    iterate 2 refine zK ?_
    refine zL ?_
    refine zE ?_
    refine zA ?_
    refine zB ?_
    refine wl_pure Tryz.hT rfl rfl rfl ?_
    (refine wl_buildRowZ Tryz.hZ Tryz.hT rfl rfl rfl rfl rfl rfl rfl rfl rfl rfl rfl ?_; intro)
    refine wl_buildZ Tryz.hZ Tryz.hT rfl rfl rfl rfl rfl rfl rfl rfl ?_
    refine wl_storeBx 0 Tryz.hT rfl rfl rfl rfl rfl rfl rfl rfl rfl rfl rfl ?_
    refine wl_nil ?_
    rename_i b26
    refine zE ?_
    refine zO ?_
    have hV' : (⟨some g, c, j⟩ : Vec).OK 7 exRing.length (cellsOf exRing) := hV
    refine ne_ret1 Tryz.hT rfl (.cell 0 rfl rfl rfl rfl rfl) ((⟨some b26, 1, []⟩ : Vec), [((⟨some g, c, j⟩ : Vec), exRing)]) rfl ⟨⟨rfl, fun p hp => ?_⟩, ⟨rfl, (fun h => by cases h), fun _ => ⟨Nat.le_refl _, by show 1 ≤ maxLen; simp [maxLen], rfl⟩⟩⟩ fun W hp => Own.blk_congr (hp.pick [3, 2] (by decide) rfl).own rfl
    obtain rfl := List.mem_singleton.1 hp
    exact hV'
end Go.Proofs.YtnpfkmbcejgnjaaGreatDoor
namespace Go.Proofs.YtnpfkmbcejgnjaaGreatDoor
open Go Go.RowKit Go.Am Go.Lib
set_option maxRecDepth 10000
-- BOXES 2
theorem ex_chk : chk [exRing] = 0 := by decide +kernel
theorem ex_cvx2 : cvxV [exRing] 2 = .tuple #[.bool true, .int .i64 0] := by
  have h1 : loc [exRing] 2 = some (0, 2) := by decide +kernel
  have h2 : lefq [exRing] (0, 2) = true := by decide +kernel
  unfold cvxV; rw [h1]; show Value.tuple #[.bool (lefq [exRing] (0, 2)), _] = _; rw [h2]
theorem ex_cvx3 : cvxV [exRing] 3 = .tuple #[.bool false, .int .i64 0] := by
  have h1 : loc [exRing] 3 = some (0, 3) := by decide +kernel
  have h2 : lefq [exRing] (0, 3) = false := by decide +kernel
  unfold cvxV; rw [h1]; show Value.tuple #[.bool (lefq [exRing] (0, 3)), _] = _; rw [h2]
theorem ex_area : itoa (areaN [exRing]) = [53, 54] := by
  have h1 : areaN [exRing] = ((56 : Nat) : Int) := by decide +kernel
  rw [h1]
  unfold itoa
  rw [if_neg (by omega)]
  exact decDigits_two (i := 56) (by decide) (by decide)
set_option maxHeartbeats 4000000 in
theorem awake_gives (W : World) (ht : TabP W) : CallsR Tryz.prog 13 #[] W (fun _ : Unit => .bool true) (fun _ => True) (fun _ => []) := by
  refine calls_enter (args := []) Tryz.func13 rfl rfl rfl ?_
  refine zA ?_
  refine zB ?_
  refine wl_pure Tryz.hT rfl rfl rfl ?_
  refine wl_nil ?_
  refine zE ?_
  refine zA ?_
  refine zB ?_
  refine wl_call (X := Vec × Made) rfl rfl rfl rfl rfl rfl (by kernel_rfl) (fun W _ => example_gives W) ?_
  rintro ⟨V1, mk1⟩ ⟨hmk1, hV1⟩
  obtain ⟨q1, cq1, e1, hr1⟩ := made_rings hmk1 hV1
  refine wl_upd 10 (planV q1 1 cq1) rfl (congrArg (fun v => Value.agg #[v]) e1) ?_
  refine wl_call (X := Vec) rfl rfl rfl rfl rfl rfl (by kernel_rfl) (fun W hp => sides_ok W q1 cq1 [exRing] (by decide) (hr1 hp 0 1 rfl rfl) ex_chk) ?_
  intro U hU
  iterate 2 refine wl_pure Tryz.hT rfl rfl rfl ?_
  refine wl_upd 12 (.slice (U.p.map fun g => ⟨g, 0, none⟩) 6 (match U.p with | none => 0 | some _ => U.cap)) rfl (Vec.val_eq hU) ?_
  iterate 3 refine wl_pure Tryz.hT rfl rfl rfl ?_
  refine wl_nil ?_
  refine zE ?_
  refine zA ?_
  refine zB ?_
  refine wl_call (X := Vec × Made) rfl rfl rfl rfl rfl rfl (by kernel_rfl) (fun W _ => example_gives W) ?_
  rintro ⟨V2, mk2⟩ ⟨hmk2, hV2⟩
  obtain ⟨q2, cq2, e2, hr2⟩ := made_rings hmk2 hV2
  refine wl_upd 15 (planV q2 1 cq2) rfl (congrArg (fun v => Value.agg #[v]) e2) ?_
  refine wl_call1 rfl rfl rfl rfl rfl rfl (by kernel_rfl) (fun W hp => (convex_ok W q2 cq2 [exRing] 2 (by decide) (hr2 hp 3 4 rfl rfl) ex_chk).cast ex_cvx2) ?_
  iterate 5 refine wl_pure Tryz.hT rfl rfl rfl ?_
  refine wl_nil ?_
  refine zE ?_
  refine zA ?_
  refine zB ?_
  refine wl_call (X := Vec × Made) rfl rfl rfl rfl rfl rfl (by kernel_rfl) (fun W _ => example_gives W) ?_
  rintro ⟨V3, mk3⟩ ⟨hmk3, hV3⟩
  obtain ⟨q3, cq3, e3, hr3⟩ := made_rings hmk3 hV3
  refine wl_upd 20 (planV q3 1 cq3) rfl (congrArg (fun v => Value.agg #[v]) e3) ?_
  refine wl_call1 rfl rfl rfl rfl rfl rfl (by kernel_rfl) (fun W hp => (convex_ok W q3 cq3 [exRing] 3 (by decide) (hr3 hp 5 6 rfl rfl) ex_chk).cast ex_cvx3) ?_
  iterate 5 refine wl_pure Tryz.hT rfl rfl rfl ?_
  refine wl_nil ?_
  refine zE ?_
  refine zA ?_
  refine zB ?_
  refine wl_call (X := Vec × Made) rfl rfl rfl rfl rfl rfl (by kernel_rfl) (fun W _ => example_gives W) ?_
  rintro ⟨V4, mk4⟩ ⟨hmk4, hV4⟩
  obtain ⟨q4, cq4, e4, hr4⟩ := made_rings hmk4 hV4
  refine wl_upd 25 (planV q4 1 cq4) rfl (congrArg (fun v => Value.agg #[v]) e4) ?_
  refine wl_call1 rfl rfl rfl rfl rfl rfl (by kernel_rfl) (fun W hp => (areaF_ok W q4 cq4 [exRing] (by decide) (hr4 hp 7 8 rfl rfl) ex_chk (ht.hp hp)).cast (by rw [ex_area])) ?_
  iterate 5 refine wl_pure Tryz.hT rfl rfl rfl ?_
  refine wl_nil ?_
  refine zE ?_
  refine zA ?_
  refine zB ?_
  iterate 6 refine wl_pure Tryz.hT rfl rfl rfl ?_
  refine wl_upd 34 (.bool true) rfl (congrArg Value.bool (by decide)) ?_
  iterate 15 refine wl_pure Tryz.hT rfl rfl rfl ?_
  refine wl_upd 49 (.bool true) rfl (congrArg Value.bool (by rw [bytes_list [53, 54]]; decide)) ?_
  iterate 2 refine wl_pure Tryz.hT rfl rfl rfl ?_
  refine wl_nil ?_
  refine zE ?_
  refine zO ?_
  exact ne_ret1 Tryz.hT rfl (.tmp rfl) () rfl trivial fun W _ => NewBx.nil _ _
end Go.Proofs.YtnpfkmbcejgnjaaGreatDoor
namespace Go.Proofs.YtnpfkmbcejgnjaaGreatDoor
open Go Go.RowKit Go.Am
set_option maxRecDepth 10000
-- BOXES 3
theorem sd_ext {s t : Sd} (h1 : s.x = t.x) (h2 : s.y = t.y) (h3 : s.rise = t.rise) (h4 : s.run = t.run) (h5 : s.gable = t.gable) (h6 : s.plate = t.plate) (h7 : s.over = t.over) : s = t := by
  cases s; cases t; simp at *; exact ⟨h1, h2, h3, h4, h5, h6, h7⟩
theorem sd_equal (s t : Sd) (w : World) : (Op.equalIn 10000 42 s.val t.val).run Tryz.prog w = .ok (decide (s = t)) w := by
  have u3 := Tryz.underlying3
  have a3 := Tryz.isAgg3
  have z3 := Tryz.sizeOf3
  have u4 := Tryz.underlying4
  have a4 := Tryz.isAgg4
  have z4 := Tryz.sizeOf4
  have hS : Tryz.prog.underlying 42 = some (.struct (Tryz.prog.fieldsOf 42)) := by kernel_rfl
  have hp : Tryz.prog.stoodInHeld 42 = false := by kernel_rfl
  rw [show (10000 : Nat) = 9999 + 1 from rfl, run_equalIn_agg w 9999 42 _ _ hS hp]
  simp only [Program.fieldsOf, Tryz.underlying42]
  go_simp
  by_cases h1 : s.x = t.x <;> by_cases h2 : s.y = t.y <;> by_cases h3 : s.rise = t.rise <;> by_cases h4 : s.run = t.run <;> by_cases h5 : s.gable = t.gable <;> by_cases h6 : s.plate = t.plate <;> by_cases h7 : s.over = t.over <;>
    first
    | (have e : s = t := sd_ext h1 h2 h3 h4 h5 h6 h7; subst e; simp; done)
    | (have e : s ≠ t := fun e => by subst e; simp at *; done
       simp [h1, h2, h3, h4, h5, h6, h7, e])
section
variable {r : Option Nat} {n : Nat} {W0 : World} {N : Nat} {D : List Deferred} {ops tail : List Oper} {Q : Exit → Act → World → Prop} {o : Oper} {rest : List Oper} {env : Env} {A A2 : World → Prop} {R : Act → World → Prop}
theorem neqSd_run {ρ : Operand → Value} {x y : Operand} {u : TypeId} {s t : Sd} (ho : o.op = .binOp .neq 42 x y u) (hx : ρ x = s.val) (hy : ρ y = t.val) (W : World) : (execOp ρ o).run Tryz.prog W = .ok (.value (.bool (!decide (s = t)))) W := by
  have hg := run_eqGuard_agg (P := Tryz.prog) W .neq 42 x y #[.int .i64 s.x, .int .i64 s.y, .int .i64 s.rise, .int .i64 s.run, .bool s.gable, .int .i64 s.plate, .int .i64 s.over] #[.int .i64 t.x, .int .i64 t.y, .int .i64 t.rise, .int .i64 t.run, .bool t.gable, .int .i64 t.plate, .int .i64 t.over] (by kernel_rfl)
  have he := sd_equal s t W
  simp only [execOp, ho, hx, hy, Sem.run_bind, hg, Result.andThen_ok, run_neq_struct, he, Sem.run_pure]
theorem wq_neqSd {d : Nat} {x y : Operand} {u : TypeId} {s t : Sd} (hg : guardE ops N env o = some true) (hd : o.dst = some d) (ho : o.op = .binOp .neq 42 x y u) (hx : evO N env x = some s.val) (hy : evO N env y = some t.val)
    (h : WQ Tryz.prog N D ops A2 R rest ((d, .bool (!decide (s = t))) :: env) A) : WQ Tryz.prog N D ops A2 R (o :: rest) env A :=
  wq_val hg hd (fun c e => by rw [ho] at e; cases e) (fun _ W hρ _ => neqSd_run ho (hρ _ _ hx) (hρ _ _ hy) W) h
end
theorem rs_ext {rs rs' : List (List Sd)} (h : rs.length = rs'.length) (hr : ∀ k, k < rs.length → rg rs k = rg rs' k) : rs = rs' := by
  apply List.ext_getElem h
  intro i h1 h2
  have := hr i h1
  simpa [rg, h1, h2] using this
theorem sd_list_ext {l l' : List Sd} (h : l.length = l'.length) (hr : ∀ k, k < l.length → sd l k = sd l' k) : l = l' := by
  apply List.ext_getElem h
  intro i h1 h2
  have := hr i h1
  simpa [sd, h1, h2] using this
set_option maxHeartbeats 4000000 in
theorem same_gives (W : World) (p p' : Option Addr) (cap cap' : Nat) (rs rs' : List (List Sd)) (hn : rs.length < 4611686018427387904) (hl : ∀ l ∈ rs, l.length < 4611686018427387904) (hR : RingsP W p rs) (hR' : RingsP W p' rs') :
    CallsR Tryz.prog 27 #[planV p rs.length cap, planV p' rs'.length cap'] W (fun _ : Unit => .bool (decide (rs = rs'))) (fun _ => True) (fun _ => []) := by
  refine calls_enter (args := [planV p rs.length cap, planV p' rs'.length cap']) Tryz.func27 rfl rfl rfl ?_
  refine zA ?_
  refine zB ?_
  (refine wl_box rfl rfl rfl rfl ?_; intro)
  (refine wl_box rfl rfl rfl rfl ?_; intro)
  refine wl_pure Tryz.hT rfl rfl rfl ?_
  refine wl_nil ?_
  rename_i b2 b3
  refine zE ?_
  iterate 2 refine zA ?_
  refine zB ?_
  refine wl_pure Tryz.hT rfl rfl rfl ?_
  refine wl_loadBx 0 Tryz.hT rfl rfl rfl rfl rfl rfl rfl rfl ?_
  iterate 2 refine wl_pure Tryz.hT rfl rfl rfl ?_
  refine wl_loadBx 1 Tryz.hT rfl rfl rfl rfl rfl rfl rfl rfl ?_
  iterate 2 refine wl_pure Tryz.hT rfl rfl rfl ?_
  refine wl_nil ?_
  refine zE ?_
  refine wc_cond rfl (fun h => ?_) (fun h => ?_)
  · refine zA ?_
    refine zB ?_
    refine wl_pure Tryz.hT rfl rfl rfl ?_
    refine wl_nil ?_
    refine zE ?_
    refine zO ?_
    refine zP ?_
    have hne : ¬ rs = rs' := fun e => by
      have h' : (((rs.length : Nat) : Int) != ((rs'.length : Nat) : Int)) = true := h
      rw [e] at h'; simp at h'
    exact ne_ret1 Tryz.hT rfl (.tmp rfl) () (by rw [decide_eq_false hne]) trivial fun W _ => NewBx.nil _ _
  have hlen : rs.length = rs'.length := by
    have h' : (((rs.length : Nat) : Int) != ((rs'.length : Nat) : Int)) = false := h
    simp at h'; omega
  clear h
  refine zI ?_
  refine zE ?_
  iterate 2 refine zA ?_
  refine zB ?_
  refine wl_pure Tryz.hT rfl rfl rfl ?_
  refine wl_nil ?_
  refine zE ?_
  refine zH ?_
  refine wc_loop (X := Nat) (fun k => [(2, .pointer (some ⟨b2, 0, none⟩)), (3, .pointer (some ⟨b3, 0, none⟩)), (5, .int .i64 (k : Nat))]) (fun _ => [⟨b2, 24, [slv p rs.length cap], true, none⟩, ⟨b3, 24, [slv p' rs'.length cap'], true, none⟩])
    (fun k => k ≤ rs.length ∧ ∀ j, j < k → rg rs j = rg rs' j) (fun k => rs.length - k) 0 ⟨Nat.zero_le _, fun j hj => absurd hj (Nat.not_lt_zero _)⟩ ⟨rfl, rfl, rfl, trivial⟩ [] rfl ?_
  rintro k ⟨hk, hok⟩
  iterate 2 refine zA ?_
  refine zB ?_
  iterate 2 refine wl_pure Tryz.hT rfl rfl rfl ?_
  refine wl_loadBx 0 Tryz.hT rfl rfl rfl rfl rfl rfl rfl rfl ?_
  iterate 2 refine wl_pure Tryz.hT rfl rfl rfl ?_
  refine wl_nil ?_
  refine zE ?_
  refine wc_cond rfl (fun h => ?_) (fun h => ?_)
  rotate_left
  · have e : k = rs.length := by simp at h; omega
    subst e
    refine zJ ?_
    iterate 2 refine zK ?_
    refine zL ?_
    refine zE ?_
    refine zA ?_
    refine zB ?_
    refine wl_pure Tryz.hT rfl rfl rfl ?_
    refine wl_nil ?_
    refine zE ?_
    refine zO ?_
    exact ne_ret1 Tryz.hT rfl (.tmp rfl) () (by rw [decide_eq_true (rs_ext hlen hok)]) trivial fun W _ => NewBx.nil _ _
  have hk : k < rs.length := by simp at h; omega
  clear h
  have hk' : k < rs'.length := by omega
  obtain ⟨b, off, rfl, hrow⟩ := hR.row hk
  obtain ⟨q, cap2, hq1, hq2⟩ := hrow k hk
  obtain ⟨b', off', rfl, hrow'⟩ := hR'.row hk'
  obtain ⟨q', cap2', hq1', hq2'⟩ := hrow' k hk'
  have hlk := hl _ (List.mem_of_getElem? (rg_get hk))
  refine zI ?_
  refine zE ?_
  refine zA ?_
  refine zH ?_
  iterate 2 refine zA ?_
  refine zT Tryz.mixed (by kernel_rfl) ?_
  refine wq_pure Tryz.hT rfl rfl rfl ?_
  refine wq_loadBx 0 Tryz.hT rfl rfl rfl rfl rfl rfl rfl rfl ?_
  refine wq_pure Tryz.hT rfl rfl rfl ?_
  refine wq_indexAddr Tryz.hT rfl rfl rfl rfl rfl rfl rfl (by omega) (by omega) ?_
  refine wq_load rfl rfl rfl rfl (fun W hp => RowAt.load 0 Tryz.hT rfl ((fun W hp => hq1.hp hp) W hp) rfl) ?_
  iterate 2 refine wq_pure Tryz.hT rfl rfl rfl ?_
  refine wq_loadBx 1 Tryz.hT rfl rfl rfl rfl rfl rfl rfl rfl ?_
  refine wq_pure Tryz.hT rfl rfl rfl ?_
  refine wq_indexAddr Tryz.hT rfl rfl rfl rfl rfl rfl rfl (by omega) (by omega) ?_
  refine wq_load rfl rfl rfl rfl (fun W hp => RowAt.load 0 Tryz.hT rfl ((fun W hp => hq1'.hp hp) W hp) rfl) ?_
  iterate 2 refine wq_pure Tryz.hT rfl rfl rfl ?_
  refine wq_nil ?_
  refine wl_nil ?_
  refine zE ?_
  refine wc_cond rfl (fun h => ?_) (fun h => ?_)
  · refine zA ?_
    refine zB ?_
    refine wl_pure Tryz.hT rfl rfl rfl ?_
    refine wl_nil ?_
    refine zE ?_
    refine zO ?_
    refine zP ?_
    refine zQ ?_
    iterate 2 refine zP ?_
    refine zQ ?_
    refine zP ?_
    have hne : ¬ rs = rs' := fun e => by
      have h' : (((rg rs k).length : Int) != ((rg rs' k).length : Int)) = true := h
      rw [e] at h'; simp at h'
    exact ne_ret1 Tryz.hT rfl (.tmp rfl) () (by rw [decide_eq_false hne]) trivial fun W _ => NewBx.nil _ _
  have hlen2 : (rg rs k).length = (rg rs' k).length := by
    have h' : (((rg rs k).length : Int) != ((rg rs' k).length : Int)) = false := h
    simp at h'; omega
  clear h
  refine zI ?_
  refine zE ?_
  refine zA ?_
  refine zB ?_
  refine wl_pure Tryz.hT rfl rfl rfl ?_
  refine wl_nil ?_
  refine zE ?_
  refine zH ?_
  refine wc_loop (X := Nat) (fun j => [(2, .pointer (some ⟨b2, 0, none⟩)), (3, .pointer (some ⟨b3, 0, none⟩)), (5, .int .i64 (k : Nat)), (6, .int .i64 (j : Nat))]) (fun _ => [⟨b2, 24, [slv (some ⟨b, off, none⟩) rs.length cap], true, none⟩, ⟨b3, 24, [slv (some ⟨b', off', none⟩) rs'.length cap'], true, none⟩])
    (fun j => j ≤ (rg rs k).length ∧ ∀ i, i < j → sd (rg rs k) i = sd (rg rs' k) i) (fun j => (rg rs k).length - j) 0 ⟨Nat.zero_le _, fun j hj => absurd hj (Nat.not_lt_zero _)⟩ ⟨rfl, rfl, rfl, rfl, trivial⟩ [] rfl ?_
  rintro j ⟨hj, hokj⟩
  iterate 2 refine zA ?_
  refine zB ?_
  iterate 2 refine wl_pure Tryz.hT rfl rfl rfl ?_
  refine wl_loadBx 0 Tryz.hT rfl rfl rfl rfl rfl rfl rfl rfl ?_
  refine wl_pure Tryz.hT rfl rfl rfl ?_
  refine wl_indexAddr Tryz.hT rfl rfl rfl rfl rfl rfl rfl (by omega) (by omega) ?_
  refine wl_load rfl rfl rfl rfl (fun W hp => RowAt.load 0 Tryz.hT rfl ((fun W hp => hq1.hp hp) W hp) rfl) ?_
  iterate 2 refine wl_pure Tryz.hT rfl rfl rfl ?_
  refine wl_nil ?_
  refine zE ?_
  refine wc_cond rfl (fun h => ?_) (fun h => ?_)
  rotate_left
  · have e : j = (rg rs k).length := by simp at h; omega
    subst e
    refine zJ ?_
    iterate 2 refine zK ?_
    refine zL ?_
    refine zN ?_
    refine zE ?_
    refine zB ?_
    iterate 3 refine wl_pure Tryz.hT rfl rfl rfl ?_
    refine wl_nil ?_
    refine ne_loop (k + 1) ⟨hk, fun i hi => ?_⟩ (by omega) ⟨rfl, rfl, congrArg (fun z => some (Value.int .i64 z)) (wrap_id (x := (k : Int) + 1) (by omega) (by omega)), trivial⟩ [] rfl
    by_cases e : i = k
    · subst e; exact sd_list_ext hlen2 hokj
    · exact hok i (by omega)
  have hj : j < (rg rs k).length := by simp at h; omega
  clear h
  have hj' : j < (rg rs' k).length := by omega
  obtain ⟨b4, off4, rfl, hrow4⟩ := hq2.row hj
  obtain ⟨b5, off5, rfl, hrow5⟩ := hq2'.row hj'
  refine zI ?_
  refine zE ?_
  refine zA ?_
  refine zH ?_
  refine zA ?_
  refine zT Tryz.mixed (by kernel_rfl) ?_
  refine wq_pure Tryz.hT rfl rfl rfl ?_
  refine wq_loadBx 0 Tryz.hT rfl rfl rfl rfl rfl rfl rfl rfl ?_
  refine wq_pure Tryz.hT rfl rfl rfl ?_
  refine wq_indexAddr Tryz.hT rfl rfl rfl rfl rfl rfl rfl (by omega) (by omega) ?_
  refine wq_load rfl rfl rfl rfl (fun W hp => RowAt.load 0 Tryz.hT rfl ((fun W hp => hq1.hp hp) W hp) rfl) ?_
  refine wq_pure Tryz.hT rfl rfl rfl ?_
  refine wq_indexAddr Tryz.hT rfl rfl rfl rfl rfl rfl rfl (by omega) (by omega) ?_
  refine wq_load rfl rfl rfl rfl (fun W hp => RowAt.load 0 Tryz.hT rfl ((fun W hp => (hrow4 j hj).hp hp) W hp) rfl) ?_
  refine wq_pure Tryz.hT rfl rfl rfl ?_
  refine wq_loadBx 1 Tryz.hT rfl rfl rfl rfl rfl rfl rfl rfl ?_
  refine wq_pure Tryz.hT rfl rfl rfl ?_
  refine wq_indexAddr Tryz.hT rfl rfl rfl rfl rfl rfl rfl (by omega) (by omega) ?_
  refine wq_load rfl rfl rfl rfl (fun W hp => RowAt.load 0 Tryz.hT rfl ((fun W hp => hq1'.hp hp) W hp) rfl) ?_
  refine wq_pure Tryz.hT rfl rfl rfl ?_
  refine wq_indexAddr Tryz.hT rfl rfl rfl rfl rfl rfl rfl (by omega) (by omega) ?_
  refine wq_load rfl rfl rfl rfl (fun W hp => RowAt.load 0 Tryz.hT rfl ((fun W hp => (hrow5 j hj').hp hp) W hp) rfl) ?_
  refine wq_neqSd (s := sd (rg rs k) j) (t := sd (rg rs' k) j) rfl rfl rfl rfl rfl ?_
  refine wq_nil ?_
  refine wl_nil ?_
  refine zE ?_
  refine wc_cond rfl (fun h => ?_) (fun h => ?_)
  · refine zA ?_
    refine zB ?_
    refine wl_pure Tryz.hT rfl rfl rfl ?_
    refine wl_nil ?_
    refine zE ?_
    refine zO ?_
    refine zQ ?_
    iterate 2 refine zP ?_
    iterate 2 refine zQ ?_
    iterate 2 refine zP ?_
    refine zQ ?_
    refine zP ?_
    have hne : ¬ rs = rs' := fun e => by
      have h' : (!decide (sd (rg rs k) j = sd (rg rs' k) j)) = true := h
      rw [e] at h'; simp at h'
    exact ne_ret1 Tryz.hT rfl (.tmp rfl) () (by rw [decide_eq_false hne]) trivial fun W _ => NewBx.nil _ _
  · have he : sd (rg rs k) j = sd (rg rs' k) j := by
      have h' : (!decide (sd (rg rs k) j = sd (rg rs' k) j)) = false := h
      simpa using h'
    refine zI ?_
    refine zN ?_
    refine zE ?_
    refine zB ?_
    iterate 3 refine wl_pure Tryz.hT rfl rfl rfl ?_
    refine wl_nil ?_
    refine ne_loop (j + 1) ⟨hj, fun i hi => ?_⟩ (by omega) ⟨rfl, rfl, rfl, congrArg (fun z => some (Value.int .i64 z)) (wrap_id (x := (j : Int) + 1) (by omega) (by omega)), trivial⟩ [] rfl
    by_cases e : i = j
    · subst e; exact he
    · exact hokj i (by omega)
end Go.Proofs.YtnpfkmbcejgnjaaGreatDoor
namespace Go.Proofs.YtnpfkmbcejgnjaaGreatDoor
open Go Go.RowKit Go.Am Go.Lib
set_option maxRecDepth 10000
-- BOXES 4
def prT (rs : List (List Sd)) : List UInt8 := if chk rs = 0 then planText rs else []
def prE (rs : List (List Sd)) : Int := if chk rs = 0 then 0 else 1
theorem print_gives (W : World) (p : Option Addr) (cap : Nat) (rs : List (List Sd)) (hn : rs.length < 4611686018427387904) (hT : tot rs < 1099511627776) (hR : RingsP W p rs) (ht : TabP W) :
    CallsR Tryz.prog 33 #[planV p rs.length cap] W (fun _ : Unit => .tuple #[str (prT rs), .int .i64 (prE rs)]) (fun _ => True) (fun _ => []) := by
  by_cases hc : chk rs = 0
  · exact (print_ok W p cap rs hn hR hc ht).cast (by unfold prT prE; rw [if_pos hc, if_pos hc])
  · exact (print_no W p cap rs hn hT hR hc).cast (by unfold prT prE; rw [if_neg hc, if_neg hc])
theorem outP_ok {s : List UInt8} (h : (outP s).2 = 0) : ∃ rs, outP s = (rs, 0) ∧ chk rs = 0 ∧ planText rs = s := by
  unfold outP at h ⊢
  cases hp : parseF [] s with
  | none => rw [hp] at h; cases h
  | some rs =>
    rw [hp] at h
    change (if chk rs = 0 then (rs, (0 : Int)) else ([], chk rs)).2 = 0 at h
    by_cases hc : chk rs = 0
    · refine ⟨rs, ?_, hc, ?_⟩
      · show (if _ then _ else _) = _
        rw [if_pos hc]
      · have := (parseF_text s.length (Nat.le_refl _) hp (fun l hl => by cases hl)).1
        rw [this]; rfl
    · rw [if_neg hc] at h; exact absurd h hc
theorem outP_bad {s : List UInt8} (h : (outP s).2 ≠ 0) : (outP s).1 = [] := by
  unfold outP at h ⊢
  cases hp : parseF [] s with
  | none => rfl
  | some rs =>
    rw [hp] at h
    change (if chk rs = 0 then (rs, (0 : Int)) else ([], chk rs)).2 ≠ 0 at h
    show (if chk rs = 0 then (rs, (0 : Int)) else ([], chk rs)).1 = []
    by_cases hc : chk rs = 0
    · rw [if_pos hc] at h; exact absurd rfl h
    · rw [if_neg hc]
end Go.Proofs.YtnpfkmbcejgnjaaGreatDoor
namespace Go.Proofs.YtnpfkmbcejgnjaaGreatDoor
open Go Go.RowKit Go.Am Go.Lib
set_option maxRecDepth 10000
-- BOXES 2
section
variable {r : Option Nat} {n : Nat} {P : Program} {N : Nat} {D : List Deferred} {ops : List Oper} {Q : Exit → Act → World → Prop} {o : Oper} {rest : List Oper} {env : Env} {A A2 : World → Prop} {R : Act → World → Prop}
theorem cat_run {ρ : Operand → Value} {t u : TypeId} {x y : Operand} {a b : List UInt8} (ho : o.op = .binOp .add t x y u) (hx : ρ x = str a) (hy : ρ y = str b) (hl : a.length + b.length ≤ 1000000000) (W : World) : (execOp ρ o).run P W = .ok (.value (str (a ++ b))) W := by
  have e : (⟨a.toArray⟩ : ByteArray) ++ ⟨b.toArray⟩ = ⟨(a ++ b).toArray⟩ := by
    apply ByteArray.ext
    simp [ByteArray.data_append]
  have hs : ¬ ((((⟨a.toArray⟩ : ByteArray).size + (⟨b.toArray⟩ : ByteArray).size : Nat) : Int) > IntKind.i64.max) := by
    have h1 : (⟨a.toArray⟩ : ByteArray).size = a.length := by show a.toArray.size = _; simp
    have h2 : (⟨b.toArray⟩ : ByteArray).size = b.length := by show b.toArray.size = _; simp
    rw [h1, h2]
    have : IntKind.i64.max = 9223372036854775807 := rfl
    rw [this]; omega
  simp only [execOp, ho, hx, hy, Sem.run_bind]
  simp only [eqGuard, binOp, Op.stringOp, if_neg hs, e]
  simp
theorem wl_cat (a b : List UInt8) {d : Nat} {t u : TypeId} {x y : Operand} (hg : guardE ops N env o = some true) (hd : o.dst = some d) (ho : o.op = .binOp .add t x y u) (hx : evO N env x = some (str a)) (hy : evO N env y = some (str b)) (hl : a.length + b.length ≤ 1000000000)
    (h : WL r n P N D ops Q rest ((d, str (a ++ b)) :: env) A) : WL r n P N D ops Q (o :: rest) env A :=
  wl_val hg hd (fun c e => by rw [ho] at e; cases e) (fun _ W hρ _ => cat_run ho (hρ _ _ hx) (hρ _ _ hy) hl W) h
theorem wq_cat (a b : List UInt8) {d : Nat} {t u : TypeId} {x y : Operand} (hg : guardE ops N env o = some true) (hd : o.dst = some d) (ho : o.op = .binOp .add t x y u) (hx : evO N env x = some (str a)) (hy : evO N env y = some (str b)) (hl : a.length + b.length ≤ 1000000000)
    (h : WQ P N D ops A2 R rest ((d, str (a ++ b)) :: env) A) : WQ P N D ops A2 R (o :: rest) env A :=
  wq_val hg hd (fun c e => by rw [ho] at e; cases e) (fun _ W hρ _ => cat_run ho (hρ _ _ hx) (hρ _ _ hy) hl W) h
/-- s[l:h] of a string -/
theorem wl_subS (l h : Nat) {T : Tbl} {i : TI} {a : List UInt8} {d : Nat} {t : TypeId} {x y y' : Operand} {k k' : IntKind} {z z' : Int} (hT : okB P T = true) (hg : guardE ops N env o = some true) (hd : o.dst = some d) (ho : o.op = .slice t x (some y') (some y) none) (ht : find T t = some i) (hk : i.kind = 1)
    (hx : evO N env x = some (str a)) (hy' : evO N env y' = some (.int k' z')) (hy : evO N env y = some (.int k z)) (hz' : z' = l) (hz : z = h) (h1 : l ≤ h) (h2 : h ≤ a.length)
    (hn : WL r n P N D ops Q rest ((d, str ((a.take h).drop l)) :: env) A) : WL r n P N D ops Q (o :: rest) env A :=
  wl_val hg hd (fun c e => by rw [ho] at e; cases e) (fun ρ W hρ _ => by
    have hu := row_kind1 (find_row hT ht) hk
    subst hz
    subst hz'
    have hsz : (⟨a.toArray⟩ : ByteArray).size = a.length := by show a.toArray.size = _; simp
    have e : (⟨a.toArray⟩ : ByteArray).extract l h = ⟨((a.take h).drop l).toArray⟩ := by
      apply ByteArray.ext
      rw [ByteArray.data_extract]
      apply Array.toList_inj.1
      simp [List.extract_eq_take_drop, List.drop_take]
    simp [execOp, ho, Instr.sliceAt, Instr.slice, Instr.sliceBounds, Instr.sliceBound, hρ _ _ hx, hρ _ _ hy, hρ _ _ hy', asIntOf, run_underlying hu, hsz, h1, h2, e]) hn
end
/-- The words of a side between its place and its plate. -/
def gW (s : Sd) : List UInt8 := if s.gable then gableW else itoa s.rise ++ [32] ++ itoa s.run
theorem lineOf_gW (s : Sd) : lineOf s = itoa s.x ++ [32] ++ itoa s.y ++ [32] ++ gW s ++ [32] ++ itoa s.plate ++ [32] ++ itoa s.over := by
  unfold lineOf wordsOf gW
  cases s.gable with
  | true => simp [join, List.intercalate]
  | false => simp [join, List.intercalate]
set_option maxHeartbeats 8000000 in
theorem printR_gives (W : World) (p : Option Addr) (cap : Nat) (rs : List (List Sd)) (hn : rs.length < 4611686018427387904) (hT : tot rs < 1099511627776) (hR : RingsP W p rs) (ht : TabP W) :
    CallsR Tryz.prog 44 #[planV p rs.length cap] W (fun _ : Unit => .tuple #[str (prT rs), .int .i64 (prE rs)]) (fun _ => True) (fun _ => []) := by
  refine calls_enter (args := [planV p rs.length cap]) Tryz.func44 rfl rfl rfl ?_
  refine zA ?_
  refine zB ?_
  (refine wl_box rfl rfl rfl rfl ?_; intro)
  iterate 2 refine wl_pure Tryz.hT rfl rfl rfl ?_
  refine wl_nil ?_
  rename_i b1
  refine zE ?_
  iterate 2 refine zA ?_
  refine zB ?_
  refine wl_loadBx 0 Tryz.hT rfl rfl rfl rfl rfl rfl rfl rfl ?_
  refine wl_call1 rfl rfl rfl rfl rfl rfl (by kernel_rfl) (fun W hp => refChk_gives W p cap rs hn hT (hR.hp hp)) ?_
  refine wl_pure Tryz.hT rfl rfl rfl ?_
  refine wl_nil ?_
  refine zE ?_
  refine wc_cond rfl (fun h => ?_) (fun h => ?_)
  · have hc : chk rs ≠ 0 := by have h' : (chk rs != 0) = true := h; simpa using h'
    refine zA ?_
    refine zB ?_
    iterate 2 refine wl_pure Tryz.hT rfl rfl rfl ?_
    refine wl_nil ?_
    refine zE ?_
    refine zO ?_
    refine zP ?_
    exact ne_ret2 Tryz.hT rfl (.tmp rfl) (.tmp rfl) () (by unfold prT prE; rw [if_neg hc, if_neg hc]) trivial fun W1 _ => NewBx.nil _ _
  have hc : chk rs = 0 := by have h' : (chk rs != 0) = false := h; simpa using h'
  clear h
  obtain ⟨hne, hT24, h0⟩ := chk_ne hc
  have hrg := (chk_parts hc).1
  have hlen := txt_len hrg
  refine zI ?_
  refine zE ?_
  refine zA ?_
  refine zB ?_
  refine wl_pure Tryz.hT rfl rfl rfl ?_
  refine wl_nil ?_
  refine zE ?_
  iterate 2 refine zA ?_
  refine zB ?_
  refine wl_pure Tryz.hT rfl rfl rfl ?_
  refine wl_nil ?_
  refine zE ?_
  refine zH ?_
  refine wc_loop (X := Nat) (fun r => [(1, .pointer (some ⟨b1, 0, none⟩)), (4, str (planText (rs.take r))), (5, .int .i64 (r : Nat))]) (fun _ => [⟨b1, 24, [slv p rs.length cap], true, none⟩])
    (fun r => r ≤ rs.length) (fun r => rs.length - r) 0 (Nat.zero_le _) ⟨rfl, rfl, rfl, trivial⟩ [] rfl ?_
  intro r hr
  iterate 2 refine zA ?_
  refine zB ?_
  iterate 2 refine wl_pure Tryz.hT rfl rfl rfl ?_
  refine wl_loadBx 0 Tryz.hT rfl rfl rfl rfl rfl rfl rfl rfl ?_
  iterate 2 refine wl_pure Tryz.hT rfl rfl rfl ?_
  refine wl_nil ?_
  refine zE ?_
  refine wc_cond rfl (fun h => ?_) (fun h => ?_)
  rotate_left
  · have e : r = rs.length := by have h' : decide ((r : Int) < (rs.length : Nat)) = false := h; rw [decide_eq_false_iff_not] at h'; omega
    subst e
    clear h
    refine zJ ?_
    iterate 2 refine zK ?_
    refine zL ?_
    refine zE ?_
    refine zA ?_
    refine zB ?_
    iterate 3 refine wl_pure Tryz.hT rfl rfl rfl ?_
    refine wl_nil ?_
    refine zE ?_
    refine zO ?_
    exact ne_ret2 Tryz.hT rfl (.tmp rfl) (.tmp rfl) () (by unfold prT prE; rw [if_pos hc, if_pos hc, List.take_length]) trivial fun W1 _ => NewBx.nil _ _
  have hr : r < rs.length := by have h' : decide ((r : Int) < (rs.length : Nat)) = true := h; rw [decide_eq_true_iff] at h'; omega
  clear h
  obtain ⟨b, off, rfl, hrow⟩ := hR.row hr
  obtain ⟨q, cap2, hq1, hq2⟩ := hrow r hr
  have hlr := len_le_tot (List.mem_of_getElem? (rg_get hr))
  have hrt := take_tot hne r (by omega)
  have htt := tot_take_le rs r
  obtain ⟨hl1, hl2⟩ := hlen r (by omega)
  have hl2 := hl2 hr
  refine zI ?_
  refine zE ?_
  refine zA ?_
  refine zH ?_
  refine zA ?_
  refine zB ?_
  refine wl_pure Tryz.hT rfl rfl rfl ?_
  refine wl_cat (planText (rs.take r)) rl rfl rfl rfl rfl rfl (by have : rl.length = 5 := rfl; omega) ?_
  refine wl_pure Tryz.hT rfl rfl rfl ?_
  refine wl_nil ?_
  refine zE ?_
  refine zA ?_
  refine zB ?_
  refine wl_pure Tryz.hT rfl rfl rfl ?_
  refine wl_nil ?_
  refine zE ?_
  refine zH ?_
  refine wc_loop (X := Nat) (fun j => [(1, .pointer (some ⟨b1, 0, none⟩)), (4, str (txt rs r j)), (5, .int .i64 (r : Nat)), (6, .int .i64 (j : Nat))]) (fun _ => [⟨b1, 24, [slv (some ⟨b, off, none⟩) rs.length cap], true, none⟩])
    (fun j => j ≤ (rg rs r).length) (fun j => (rg rs r).length - j) 0 (Nat.zero_le _) ⟨rfl, congrArg (fun l => some (str l)) (txt_zero rs r).symm, rfl, rfl, trivial⟩ [] rfl ?_
  intro j hj
  iterate 2 refine zA ?_
  refine zB ?_
  iterate 2 refine wl_pure Tryz.hT rfl rfl rfl ?_
  refine wl_loadBx 0 Tryz.hT rfl rfl rfl rfl rfl rfl rfl rfl ?_
  refine wl_pure Tryz.hT rfl rfl rfl ?_
  refine wl_indexAddr Tryz.hT rfl rfl rfl rfl rfl rfl rfl (by omega) (by omega) ?_
  refine wl_load rfl rfl rfl rfl (fun W hp => RowAt.load 0 Tryz.hT rfl ((fun W hp => hq1.hp hp) W hp) rfl) ?_
  iterate 2 refine wl_pure Tryz.hT rfl rfl rfl ?_
  refine wl_nil ?_
  refine zE ?_
  refine wc_cond rfl (fun h => ?_) (fun h => ?_)
  rotate_left
  · have e : j = (rg rs r).length := by have h' : decide ((j : Int) < ((rg rs r).length : Nat)) = false := h; rw [decide_eq_false_iff_not] at h'; omega
    subst e
    clear h
    refine zJ ?_
    iterate 2 refine zK ?_
    refine zL ?_
    refine zN ?_
    refine zE ?_
    refine zB ?_
    iterate 3 refine wl_pure Tryz.hT rfl rfl rfl ?_
    refine wl_nil ?_
    exact ne_loop (r + 1) hr (by omega) ⟨rfl, congrArg (fun l => some (str l)) (txt_all hr), congrArg (fun z => some (Value.int .i64 z)) (wrap_id (x := (r : Int) + 1) (by omega) (by omega)), trivial⟩ [] rfl
  have hj : j < (rg rs r).length := by have h' : decide ((j : Int) < ((rg rs r).length : Nat)) = true := h; rw [decide_eq_true_iff] at h'; omega
  clear h
  obtain ⟨bq, oq, rfl, hrq⟩ := hq2.row hj
  have hrs := hrg _ (List.mem_of_getElem? (rg_get hr)) _ (List.mem_of_getElem? (sd_get hj))
  obtain ⟨hok, hl200⟩ := okSd_of hrs
  have hlj := hl2 j (by omega)
  have hts := txt_succ hj
  have b64 : ∀ n : Int, okI n → -9223372036854775808 ≤ n ∧ n ≤ 9223372036854775807 := fun n h => by
    have hb : n.toNat < 10 ^ 9 := dd_long 9 _ (by have h9 := h.2; unfold itoa at h9; rwa [if_neg (by have := h.1; omega)] at h9)
    have := h.1
    omega
  refine zI ?_
  refine zE ?_
  refine zA ?_
  refine zH ?_
  refine zA ?_
  refine zB ?_
  refine wl_pure Tryz.hT rfl rfl rfl ?_
  refine wl_loadBx 0 Tryz.hT rfl rfl rfl rfl rfl rfl rfl rfl ?_
  refine wl_pure Tryz.hT rfl rfl rfl ?_
  refine wl_indexAddr Tryz.hT rfl rfl rfl rfl rfl rfl rfl (by omega) (by omega) ?_
  refine wl_load rfl rfl rfl rfl (fun W hp => RowAt.load 0 Tryz.hT rfl ((fun W hp => hq1.hp hp) W hp) rfl) ?_
  refine wl_pure Tryz.hT rfl rfl rfl ?_
  refine wl_indexAddr Tryz.hT rfl rfl rfl rfl rfl rfl rfl (by omega) (by omega) ?_
  refine wl_load rfl rfl rfl rfl (fun W hp => RowAt.load 0 Tryz.hT rfl ((fun W hp => (hrq j hj).hp hp) W hp) rfl) ?_
  (refine wl_allocZ Tryz.hZ rfl rfl rfl rfl ?_; intro)
  refine wl_storeBx 1 Tryz.hT rfl rfl rfl rfl rfl rfl rfl rfl rfl rfl rfl ?_
  refine wl_nil ?_
  rename_i b7
  generalize hsd : sd (rg rs r) j = s at *
  have hg9 : s.gable = true → s.rise = 0 ∧ s.run = 0 := hok.2.2.1
  have hg10 : s.gable = false → okI s.rise ∧ okI s.run := hok.2.2.2.1
  refine zE ?_
  refine zA ?_
  refine zB ?_
  refine wl_pure Tryz.hT rfl rfl rfl ?_
  refine wl_nil ?_
  refine ne_then ?_
  refine wc_cut (X := Unit) (fun _ => [(1, .pointer (some ⟨b1, 0, none⟩)), (4, str (txt rs r j)), (5, .int .i64 (r : Nat)), (6, .int .i64 (j : Nat)), (7, .pointer (some ⟨b7, 0, none⟩)), (8, str (gW s))]) (fun _ => [⟨b1, 24, [slv (some ⟨b, off, none⟩) rs.length cap], true, none⟩, ⟨b7, 42, s.cells, true, none⟩]) (fun _ => True) ?_ ?_
  · refine zA ?_
    refine zB ?_
    refine wl_pure Tryz.hT rfl rfl rfl ?_
    refine wl_loadBx 1 Tryz.hT rfl rfl rfl rfl rfl rfl rfl rfl ?_
    refine wl_pure Tryz.hT rfl rfl rfl ?_
    refine wl_nil ?_
    refine zE ?_
    refine wc_cond rfl (fun hg => ?_) (fun hg => ?_)
    · have hg : s.gable = false := by simpa using hg
      obtain ⟨o1, o2⟩ := hg10 hg
      have e : gW s = itoa s.rise ++ [32] ++ itoa s.run := by unfold gW; rw [if_neg (by rw [hg]; decide)]
      refine zT Tryz.mixed (by kernel_rfl) ?_
      refine wq_pure Tryz.hT rfl rfl rfl ?_
      refine wq_loadBx 1 Tryz.hT rfl rfl rfl rfl rfl rfl rfl rfl ?_
      refine wq_call1 rfl rfl rfl rfl rfl rfl (by kernel_rfl) (fun W hp => itoa_gives s.rise (b64 _ o1).1 (b64 _ o1).2 W (ht.hp hp)) ?_
      refine wq_cat (itoa s.rise) [32] rfl rfl rfl rfl rfl (by have := o1.2; simp only [List.length_cons, List.length_nil]; omega) ?_
      refine wq_pure Tryz.hT rfl rfl rfl ?_
      refine wq_loadBx 1 Tryz.hT rfl rfl rfl rfl rfl rfl rfl rfl ?_
      refine wq_call1 rfl rfl rfl rfl rfl rfl (by kernel_rfl) (fun W hp => itoa_gives s.run (b64 _ o2).1 (b64 _ o2).2 W (ht.hp hp)) ?_
      refine wq_cat (itoa s.rise ++ [32]) (itoa s.run) rfl rfl rfl rfl rfl (by have := o1.2; have := o2.2; simp only [List.length_append, List.length_cons, List.length_nil]; omega) ?_
      refine wq_pure Tryz.hT rfl rfl rfl ?_
      refine wq_nil ?_
      refine wl_nil ?_
      exact ne_cut () trivial ⟨rfl, rfl, rfl, rfl, rfl, congrArg (fun l => some (str l)) e.symm, trivial⟩ [] rfl
    · have hg : s.gable = true := by simpa using hg
      have e : gW s = gableW := by unfold gW; rw [if_pos hg]
      refine zI ?_
      exact ne_cut () trivial ⟨rfl, rfl, rfl, rfl, rfl, congrArg (fun l => some (str l)) e.symm, trivial⟩ [] rfl
  intro _ _
  have hgl : (gW s).length ≤ 19 := by
    unfold gW
    cases hg : s.gable with
    | true => rw [if_pos rfl]; decide
    | false =>
      rw [if_neg (by decide)]
      obtain ⟨o1, o2⟩ := hg10 hg
      have := o1.2; have := o2.2
      simp only [List.length_append, List.length_cons, List.length_nil]; omega
  have ox := hok.1
  have oy := hok.2.1
  have op := hok.2.2.2.2.1
  have oo := hok.2.2.2.2.2
  have lx := ox.2; have ly := oy.2; have lp := op.2; have lo := oo.2
  obtain ⟨T, eT⟩ : ∃ T, txt rs r j = T := ⟨_, rfl⟩
  rw [eT] at hlj hts
  refine zT Tryz.mixed (by kernel_rfl) ?_
  iterate 2 refine wq_pure Tryz.hT rfl rfl rfl ?_
  refine wq_loadBx 1 Tryz.hT rfl rfl rfl rfl rfl rfl rfl rfl ?_
  refine wq_call1 rfl rfl rfl rfl rfl rfl (by kernel_rfl) (fun W hp => itoa_gives s.x (b64 _ ox).1 (b64 _ ox).2 W (ht.hp hp)) ?_
  refine wq_cat T (itoa s.x) rfl rfl rfl (congrArg (fun l => some (str l)) eT) rfl (by omega) ?_
  refine wq_cat (T ++ itoa s.x) [32] rfl rfl rfl rfl rfl (by simp only [List.length_append, List.length_cons, List.length_nil]; omega) ?_
  refine wq_pure Tryz.hT rfl rfl rfl ?_
  refine wq_loadBx 1 Tryz.hT rfl rfl rfl rfl rfl rfl rfl rfl ?_
  refine wq_call1 rfl rfl rfl rfl rfl rfl (by kernel_rfl) (fun W hp => itoa_gives s.y (b64 _ oy).1 (b64 _ oy).2 W (ht.hp hp)) ?_
  refine wq_cat (T ++ itoa s.x ++ [32]) (itoa s.y) rfl rfl rfl rfl rfl (by simp only [List.length_append, List.length_cons, List.length_nil]; omega) ?_
  refine wq_cat (T ++ itoa s.x ++ [32] ++ itoa s.y) [32] rfl rfl rfl rfl rfl (by simp only [List.length_append, List.length_cons, List.length_nil]; omega) ?_
  refine wq_pure Tryz.hT rfl rfl rfl ?_
  refine wq_cat (T ++ itoa s.x ++ [32] ++ itoa s.y ++ [32]) (gW s) rfl rfl rfl rfl rfl (by simp only [List.length_append, List.length_cons, List.length_nil]; omega) ?_
  refine wq_cat (T ++ itoa s.x ++ [32] ++ itoa s.y ++ [32] ++ gW s) [32] rfl rfl rfl rfl rfl (by simp only [List.length_append, List.length_cons, List.length_nil]; omega) ?_
  refine wq_pure Tryz.hT rfl rfl rfl ?_
  refine wq_loadBx 1 Tryz.hT rfl rfl rfl rfl rfl rfl rfl rfl ?_
  refine wq_call1 rfl rfl rfl rfl rfl rfl (by kernel_rfl) (fun W hp => itoa_gives s.plate (b64 _ op).1 (b64 _ op).2 W (ht.hp hp)) ?_
  refine wq_cat (T ++ itoa s.x ++ [32] ++ itoa s.y ++ [32] ++ gW s ++ [32]) (itoa s.plate) rfl rfl rfl rfl rfl (by simp only [List.length_append, List.length_cons, List.length_nil]; omega) ?_
  refine wq_cat (T ++ itoa s.x ++ [32] ++ itoa s.y ++ [32] ++ gW s ++ [32] ++ itoa s.plate) [32] rfl rfl rfl rfl rfl (by simp only [List.length_append, List.length_cons, List.length_nil]; omega) ?_
  refine wq_pure Tryz.hT rfl rfl rfl ?_
  refine wq_loadBx 1 Tryz.hT rfl rfl rfl rfl rfl rfl rfl rfl ?_
  refine wq_call1 rfl rfl rfl rfl rfl rfl (by kernel_rfl) (fun W hp => itoa_gives s.over (b64 _ oo).1 (b64 _ oo).2 W (ht.hp hp)) ?_
  refine wq_cat (T ++ itoa s.x ++ [32] ++ itoa s.y ++ [32] ++ gW s ++ [32] ++ itoa s.plate ++ [32]) (itoa s.over) rfl rfl rfl rfl rfl (by simp only [List.length_append, List.length_cons, List.length_nil]; omega) ?_
  refine wq_cat (T ++ itoa s.x ++ [32] ++ itoa s.y ++ [32] ++ gW s ++ [32] ++ itoa s.plate ++ [32] ++ itoa s.over) [10] rfl rfl rfl rfl rfl (by simp only [List.length_append, List.length_cons, List.length_nil]; omega) ?_
  refine wq_pure Tryz.hT rfl rfl rfl ?_
  refine wq_nil ?_
  refine wl_nil ?_
  have e24 : T ++ itoa s.x ++ [32] ++ itoa s.y ++ [32] ++ gW s ++ [32] ++ itoa s.plate ++ [32] ++ itoa s.over ++ [10] = txt rs r (j + 1) := by
    rw [hts, lineOf_gW]
    simp only [List.append_assoc]
  refine zN ?_
  refine zE ?_
  refine zB ?_
  iterate 3 refine wl_pure Tryz.hT rfl rfl rfl ?_
  refine wl_nil ?_
  exact ne_loop (j + 1) hj (by omega) ⟨rfl, congrArg (fun l => some (str l)) e24, rfl, congrArg (fun z => some (Value.int .i64 z)) (wrap_id (x := (j : Int) + 1) (by omega) (by omega)), trivial⟩ [_] rfl
end Go.Proofs.YtnpfkmbcejgnjaaGreatDoor
namespace Go.Proofs.YtnpfkmbcejgnjaaGreatDoor
open Go Go.RowKit Go.Am Go.Lib
set_option maxRecDepth 10000
-- BOXES 2
theorem uint_small : ∀ (l : List UInt8) (acc : Nat), (acc + 1) * 10 ^ l.length ≤ 10 ^ 18 → parseUint10 acc l ≠ .range ∧ ∀ u, parseUint10 acc l = .ok u → u < 10 ^ 18
  | [], acc, h => by
    simp only [List.length_nil, Nat.pow_zero, Nat.mul_one] at h
    refine ⟨fun e => (by simp [parseUint10] at e), fun u e => ?_⟩
    simp only [parseUint10] at e
    injection e with e
    omega
  | c :: r, acc, h => by
    rw [List.length_cons, Nat.pow_succ] at h
    have hp : 0 < 10 ^ r.length := Nat.pow_pos (by decide)
    have h2 : (acc + 1) * (10 ^ r.length * 10) = (acc * 10 + 10) * 10 ^ r.length := by
      rw [Nat.mul_comm (10 ^ r.length) 10, ← Nat.mul_assoc]; congr 1; omega
    rw [h2] at h
    have h3 : acc * 10 + 10 ≤ 10 ^ 18 := Nat.le_trans (Nat.le_mul_of_pos_right _ hp) h
    unfold parseUint10
    by_cases hd : 48 ≤ c.toNat ∧ c.toNat ≤ 57
    · rw [if_pos hd, if_neg (by omega), if_neg (by omega)]
      refine uint_small r _ (Nat.le_trans (Nat.mul_le_mul_right _ ?_) h)
      omega
    · rw [if_neg hd]
      exact ⟨fun e => (by cases e), fun u e => (by cases e)⟩
theorem atoi_small {w : List UInt8} (h : w.length ≤ 9) : atoiAll w ≠ .range ∧ ∀ n, atoiAll w = .ok n → -1000000000000000000 < n ∧ n < 1000000000000000000 := by
  cases w with
  | nil => exact ⟨fun e => (by simp [atoiAll] at e), fun n e => by simp [atoiAll] at e⟩
  | cons c r =>
    rw [List.length_cons] at h
    have hl : (if c.toNat = 43 ∨ c.toNat = 45 then r else c :: r).length ≤ 9 := by split <;> (try rw [List.length_cons]) <;> omega
    generalize hll : (if c.toNat = 43 ∨ c.toNat = 45 then r else c :: r) = l at hl
    have hm : parseMag l ≠ .range ∧ ∀ u, parseMag l = .ok u → u < 10 ^ 18 := by
      unfold parseMag
      by_cases h0 : l = []
      · rw [if_pos h0]; exact ⟨fun e => (by cases e), fun u e => (by cases e)⟩
      · rw [if_neg h0]
        refine uint_small l 0 ?_
        have : 10 ^ l.length ≤ 10 ^ 9 := Nat.pow_le_pow_right (by decide) hl
        omega
    have e0 : atoiAll (c :: r) = match parseMag l with
      | NumEnd.syntax => NumEnd.syntax
      | .range => .range
      | .ok u => if ¬ c.toNat = 45 ∧ 9223372036854775808 ≤ u then .range else if c.toNat = 45 ∧ 9223372036854775808 < u then .range else .ok (if c.toNat = 45 then -(u : Int) else u) := by
      unfold atoiAll
      simp only [hll]
      cases parseMag l <;> rfl
    rw [e0]
    cases hp : parseMag l with
    | ok u =>
      have hu := hm.2 u hp
      simp only
      rw [if_neg (by omega), if_neg (by omega)]
      refine ⟨fun e => (by cases e), fun n e => ?_⟩
      injection e with e
      rw [← e]
      split <;> omega
    | range => exact absurd hp hm.1
    | _ => exact ⟨fun e => (by cases e), fun n e => (by cases e)⟩
/-- The number beside an error. -/
theorem atoi_num (W : World) (w : List UInt8) (hw : w.length ≤ 1000000) (hv : VarsP W) :
    CallsR Tryz.prog 128 #[str w] W (fun x : Int × Value => .tuple #[.int .i64 x.1, x.2]) (fun x => atoiAll w = .ok x.1 ∨ ((∀ n, atoiAll w ≠ .ok n) ∧ (w.length ≤ 9 → x.1 = 0))) (fun _ => []) := by
  have hsz : (⟨w.toArray⟩ : ByteArray).size = w.length := by show w.toArray.size = _; simp
  cases h : atoiAll w
  case ok n =>
    refine ⟨(Tryz.strconv_Atoi_ok ⟨w.toArray⟩ (by rw [hsz]; omega) n (by simpa using h) W).mono ?_⟩
    rintro e W' ⟨rfl, hw'⟩
    refine ⟨(n, .nilIface), rfl, .inl rfl, ?_, NewBx.nil _ _⟩
    rcases hw' with rfl | ⟨t, rfl⟩
    · exact Below.refl _ _
    · exact bytesWorld_below _ _ _
  rotate_left
  case range =>
    obtain ⟨ev, h1, h2⟩ := hv.rng
    refine ⟨(Tryz.strconv_Atoi_range ⟨w.toArray⟩ (by rw [hsz]; omega) (by simpa using h) ev W h1 h2).mono ?_⟩
    rintro e W' ⟨N, rfl, _, _, hb⟩
    exact ⟨(_, .iface 228 (.pointer (some ⟨N, 0, none⟩))), rfl, .inr ⟨fun n hn => (by cases hn), fun h9 => absurd h (atoi_small h9).1⟩, hb, NewBx.nil _ _⟩
  · obtain ⟨ev, h1, h2⟩ := hv.syn
    refine ⟨(Tryz.strconv_Atoi_syntax ⟨w.toArray⟩ (by rw [hsz]; omega) (by simpa using h) ev W h1 h2).mono ?_⟩
    rintro e W' ⟨N, rfl, _, _, hb⟩
    exact ⟨(0, .iface 228 (.pointer (some ⟨N, 0, none⟩))), rfl, .inr ⟨fun n hn => (by cases hn), fun _ => rfl⟩, hb, NewBx.nil _ _⟩
theorem itoa0_atoi : atoiAll (itoa 0) = .ok 0 := atoi_itoa 0 (by omega) (by omega)
theorem numberR_gives (W : World) (w : List UInt8) (hw : w.length ≤ 1000000) (hv : VarsP W) (ht : TabP W) :
    CallsR Tryz.prog 150 #[str w] W (fun x : Int × Bool => .tuple #[.int .i64 x.1, .bool x.2]) (fun x => (numW w = some x.1 ∧ x.2 = true) ∨ (numW w = none ∧ x.2 = false)) (fun _ => []) := by
  have hsz : (⟨w.toArray⟩ : ByteArray).size = w.length := by show w.toArray.size = _; simp
  refine calls_enter (args := [str w]) Tryz.func150 rfl rfl rfl ?_
  refine zA ?_
  refine zB ?_
  iterate 2 refine wl_pure Tryz.hT rfl rfl rfl ?_
  refine wl_nil ?_
  refine zE ?_
  refine zA ?_
  refine zB ?_
  refine wl_pure Tryz.hT rfl rfl rfl ?_
  refine wl_call (X := Int × Value) rfl rfl rfl rfl rfl rfl (by kernel_rfl) (fun W hp => atoi_num W w hw (hv.hp hp)) ?_
  rintro ⟨z, v⟩ hz
  change atoiAll w = .ok z ∨ ((∀ n, atoiAll w ≠ .ok n) ∧ (w.length ≤ 9 → z = 0)) at hz
  iterate 5 refine wl_pure Tryz.hT rfl rfl rfl ?_
  refine wl_nil ?_
  refine zE ?_
  refine zA ?_
  refine zB ?_
  iterate 4 refine wl_pure Tryz.hT rfl rfl rfl ?_
  by_cases c2 : w.length ≤ 9
  rotate_left
  · have hno : numW w = none := by
      rcases hz with h | ⟨h, _⟩
      · rw [numW_ok h, if_pos (.inr (.inl (by omega)))]
      · exact numW_no h
    refine wl_upd 14 (.bool false) rfl (congrArg Value.bool (show decide (((⟨w.toArray⟩ : ByteArray).size : Int) ≤ 9) = false by rw [hsz, decide_eq_false_iff_not]; omega)) ?_
    refine wl_pure Tryz.hT rfl rfl rfl ?_
    iterate 2 refine wl_skip rfl rfl ?_
    iterate 2 refine wl_pure Tryz.hT rfl rfl rfl ?_
    iterate 4 refine wl_skip rfl rfl ?_
    iterate 3 refine wl_pure Tryz.hT rfl rfl rfl ?_
    refine wl_nil ?_
    refine zE ?_
    refine zO ?_
    exact ne_ret2 Tryz.hT rfl (.tmp rfl) (.tmp rfl) (z, false) rfl (.inr ⟨hno, rfl⟩) fun W _ => NewBx.nil _ _
  refine wl_upd 14 (.bool true) rfl (congrArg Value.bool (show decide (((⟨w.toArray⟩ : ByteArray).size : Int) ≤ 9) = true by rw [hsz, decide_eq_true_iff]; omega)) ?_
  iterate 3 refine wl_pure Tryz.hT rfl rfl rfl ?_
  by_cases c1 : z ≥ 0
  rotate_left
  · have hno : numW w = none := by
      rcases hz with h | ⟨h, _⟩
      · rw [numW_ok h, if_pos (.inl (by omega))]
      · exact numW_no h
    refine wl_upd 17 (.bool false) rfl (congrArg Value.bool (decide_eq_false c1)) ?_
    iterate 2 refine wl_pure Tryz.hT rfl rfl rfl ?_
    iterate 4 refine wl_skip rfl rfl ?_
    iterate 3 refine wl_pure Tryz.hT rfl rfl rfl ?_
    refine wl_nil ?_
    refine zE ?_
    refine zO ?_
    exact ne_ret2 Tryz.hT rfl (.tmp rfl) (.tmp rfl) (z, false) rfl (.inr ⟨hno, rfl⟩) fun W _ => NewBx.nil _ _
  have hb : -9223372036854775808 ≤ z ∧ z ≤ 9223372036854775807 := by
    rcases hz with h | ⟨_, h⟩
    · have := (atoi_small c2).2 z h; omega
    · have := h c2; omega
  refine wl_upd 17 (.bool true) rfl (congrArg Value.bool (decide_eq_true c1)) ?_
  iterate 3 refine wl_pure Tryz.hT rfl rfl rfl ?_
  refine wl_call1 rfl rfl rfl rfl rfl rfl (by kernel_rfl) (fun W hp => itoa_gives z hb.1 hb.2 W (ht.hp hp)) ?_
  iterate 2 refine wl_pure Tryz.hT rfl rfl rfl ?_
  by_cases c3 : itoa z = w
  · have hyes : numW w = some z := by
      rcases hz with h | ⟨h, h0⟩
      · rw [numW_ok h, if_neg (by rintro (h | h | h) <;> first | omega | exact h c3)]
      · have e0 := h0 c2
        subst e0
        exact absurd (c3 ▸ itoa0_atoi) (h 0)
    refine wl_upd 23 (.bool true) rfl (congrArg Value.bool (show ((⟨(itoa z).toArray⟩ : ByteArray).toList == (⟨w.toArray⟩ : ByteArray).toList) = true by rw [str_eq, decide_eq_true c3])) ?_
    iterate 3 refine wl_pure Tryz.hT rfl rfl rfl ?_
    refine wl_nil ?_
    refine zE ?_
    refine zO ?_
    exact ne_ret2 Tryz.hT rfl (.tmp rfl) (.tmp rfl) (z, true) rfl (.inl ⟨hyes, rfl⟩) fun W _ => NewBx.nil _ _
  · have hno : numW w = none := by
      rcases hz with h | ⟨h, _⟩
      · rw [numW_ok h, if_pos (.inr (.inr c3))]
      · exact numW_no h
    refine wl_upd 23 (.bool false) rfl (congrArg Value.bool (show ((⟨(itoa z).toArray⟩ : ByteArray).toList == (⟨w.toArray⟩ : ByteArray).toList) = false by rw [str_eq, decide_eq_false c3])) ?_
    iterate 3 refine wl_pure Tryz.hT rfl rfl rfl ?_
    refine wl_nil ?_
    refine zE ?_
    refine zO ?_
    exact ne_ret2 Tryz.hT rfl (.tmp rfl) (.tmp rfl) (z, false) rfl (.inr ⟨hno, rfl⟩) fun W _ => NewBx.nil _ _
/-- Words found up to a place. -/
structure WInv (c : UInt8) (l : List UInt8) (i st : Nat) (done : List (List UInt8)) : Prop where
  le : i ≤ l.length + 1
  bg : st ≤ i
  cnt : done.length ≤ i
  more : i ≤ l.length → splt c l = done ++ splt c (l.drop st) ∧ c ∉ (l.take i).drop st
  all : l.length < i → done = splt c l
theorem cut_mid {l : List UInt8} {i st : Nat} (hs : st ≤ i) (hi : i ≤ l.length) : l.drop st = (l.take i).drop st ++ l.drop i := by
  have h : (l.take i ++ l.drop i).drop st = (l.take i).drop st ++ l.drop i := by
    rw [List.drop_append_of_le_length (by rw [List.length_take]; omega)]
  rw [List.take_append_drop] at h
  exact h
theorem WInv.last {c : UInt8} {l : List UInt8} {st : Nat} {done : List (List UInt8)} (h : WInv c l l.length st done) : WInv c l (l.length + 1) (l.length + 1) (done ++ [(l.take l.length).drop st]) := by
  obtain ⟨h1, h2⟩ := h.more (Nat.le_refl _)
  refine ⟨Nat.le_refl _, Nat.le_refl _, by have := h.cnt; rw [List.length_append, List.length_singleton]; omega, fun h => absurd h (by omega), fun _ => ?_⟩
  have e := cut_mid h.bg (Nat.le_refl _)
  rw [List.drop_length, List.append_nil] at e
  rw [h1, e, splt_one h2]
theorem WInv.cut {c : UInt8} {l : List UInt8} {i st : Nat} {done : List (List UInt8)} (h : WInv c l i st done) (hi : l[i]? = some c) : WInv c l (i + 1) (i + 1) (done ++ [(l.take i).drop st]) := by
  have hlt := (List.getElem?_eq_some_iff.1 hi).1
  obtain ⟨h1, h2⟩ := h.more (by omega)
  refine ⟨by omega, Nat.le_refl _, by have := h.cnt; rw [List.length_append, List.length_singleton]; omega, fun _ => ⟨?_, ?_⟩, fun h => absurd h (by omega)⟩
  · have e := cut_mid h.bg (show i ≤ l.length by omega)
    rw [List.drop_eq_getElem_cons hlt, (List.getElem?_eq_some_iff.1 hi).2] at e
    rw [h1, e, splt_at _ h2, List.append_assoc]; rfl
  · rw [List.drop_eq_nil_of_le (by rw [List.length_take]; omega)]
    exact List.not_mem_nil
theorem WInv.next {c : UInt8} {l : List UInt8} {i st : Nat} {done : List (List UInt8)} (h : WInv c l i st done) {b : UInt8} (hi : l[i]? = some b) (hb : b ≠ c) : WInv c l (i + 1) st done := by
  have hlt := (List.getElem?_eq_some_iff.1 hi).1
  obtain ⟨h1, h2⟩ := h.more (by omega)
  refine ⟨by omega, by have := h.bg; omega, by have := h.cnt; omega, fun _ => ⟨h1, ?_⟩, fun h => absurd h (by omega)⟩
  rw [List.take_add_one, hi, List.drop_append_of_le_length (by rw [List.length_take]; have := h.bg; omega)]
  intro hm
  rcases List.mem_append.1 hm with hm | hm
  · exact h2 hm
  · exact hb (List.mem_singleton.1 hm).symm
theorem ss_append (a b : List (List UInt8)) : ss (a ++ b) = ss a ++ ss b := List.map_append
set_option maxHeartbeats 8000000 in
theorem wordsR_gives (W : World) (l : List UInt8) (hl : l.length ≤ 1000000) :
    CallsR Tryz.prog 149 #[str l] W (fun V : Vec => V.val (splt 32 l).length) (fun V => V.OK 1 (splt 32 l).length (ss (splt 32 l))) (fun V => [V.bx 9 (ss (splt 32 l))]) := by
  have hsz : (⟨l.toArray⟩ : ByteArray).size = l.length := by show l.toArray.size = _; simp
  refine calls_enter (args := [str l]) Tryz.func149 rfl rfl rfl ?_
  refine zA ?_
  refine zB ?_
  refine wl_pure Tryz.hT rfl rfl rfl ?_
  refine wl_nil ?_
  refine zE ?_
  refine zA ?_
  refine zB ?_
  refine wl_pure Tryz.hT rfl rfl rfl ?_
  refine wl_nil ?_
  refine zE ?_
  refine zA ?_
  refine zB ?_
  refine wl_pure Tryz.hT rfl rfl rfl ?_
  refine wl_nil ?_
  refine zE ?_
  iterate 2 refine zA ?_
  refine zB ?_
  refine wl_pure Tryz.hT rfl rfl rfl ?_
  refine wl_nil ?_
  refine zE ?_
  refine zH ?_
  refine wc_newGone ?_
  refine wc_loop (X := Nat × Nat × Vec × List (List UInt8)) (fun x => [(0, str l), (3, x.2.2.1.val x.2.2.2.length), (4, .int .i64 (x.2.1 : Nat)), (5, .int .i64 (x.1 : Nat))]) (fun x => [x.2.2.1.bx 9 (ss x.2.2.2)])
    (fun x => WInv 32 l x.1 x.2.1 x.2.2.2 ∧ x.2.2.1.OK 1 x.2.2.2.length (ss x.2.2.2)) (fun x => l.length + 1 - x.1) (0, 0, Vec.empty, []) ⟨⟨Nat.zero_le _, Nat.le_refl _, Nat.le_refl _, fun _ => ⟨rfl, by simp⟩, fun h => absurd h (by omega)⟩, Vec.OK.empty 1⟩ ⟨rfl, rfl, rfl, rfl, trivial⟩ [] rfl ?_
  rintro ⟨i, st, V, done⟩ ⟨hw, hV⟩
  change WInv 32 l i st done at hw
  change V.OK 1 done.length (ss done) at hV
  have hle := hw.le
  have hst := hw.bg
  have hcnt := hw.cnt
  iterate 2 refine zA ?_
  refine zB ?_
  iterate 3 refine wl_pure Tryz.hT rfl rfl rfl ?_
  refine wl_upd 8 (.int .i64 (l.length : Nat)) rfl (congrArg (fun n : Nat => Value.int .i64 n) hsz) ?_
  refine wl_pure Tryz.hT rfl rfl rfl ?_
  refine wl_nil ?_
  refine zE ?_
  refine wc_cond rfl (fun h => ?_) (fun h => ?_)
  rotate_left
  · have hi : l.length < i := by have h' : decide ((i : Int) ≤ (l.length : Nat)) = false := h; rw [decide_eq_false_iff_not] at h'; omega
    have hd := hw.all hi
    subst hd
    refine zJ ?_
    iterate 2 refine zK ?_
    refine zL ?_
    refine zE ?_
    refine zA ?_
    refine zB ?_
    iterate 2 refine wl_pure Tryz.hT rfl rfl rfl ?_
    refine wl_nil ?_
    refine zE ?_
    refine zO ?_
    exact ne_ret1 Tryz.hT rfl (.tmp rfl) V rfl hV fun W hp => NewBx.of_hp1 hp 0 rfl
  have hi : i ≤ l.length := by have h' : decide ((i : Int) ≤ (l.length : Nat)) = true := h; rw [decide_eq_true_iff] at h'; omega
  clear h
  have hdl : (ss (done ++ [(l.take i).drop st])) = ss done ++ [str ((l.take i).drop st)] := ss_append _ _
  have hdn : (done ++ [(l.take i).drop st]).length = done.length + 1 := by rw [List.length_append]; rfl
  refine zI ?_
  refine zE ?_
  refine zA ?_
  refine zH ?_
  refine zA ?_
  refine zB ?_
  iterate 3 refine wl_pure Tryz.hT rfl rfl rfl ?_
  refine wl_upd 14 (.int .i64 (l.length : Nat)) rfl (congrArg (fun n : Nat => Value.int .i64 n) hsz) ?_
  refine wl_pure Tryz.hT rfl rfl rfl ?_
  by_cases hil : i = l.length
  · subst hil
    refine wl_upd 15 (.bool true) rfl (congrArg Value.bool (show (((l.length : Nat) : Int) == ((l.length : Nat) : Int)) = true by simp)) ?_
    refine wl_pure Tryz.hT rfl rfl rfl ?_
    iterate 4 refine wl_skip rfl rfl ?_
    refine wl_pure Tryz.hT rfl rfl rfl ?_
    refine wl_nil ?_
    refine zE ?_
    refine zR rfl ?_
    refine zA ?_
    refine zB ?_
    iterate 4 refine wl_pure Tryz.hT rfl rfl rfl ?_
    refine wl_subS st l.length Tryz.hT rfl rfl rfl rfl rfl rfl rfl rfl rfl rfl hst (Nat.le_refl _) ?_
    (refine wl_buildRowZ Tryz.hZ Tryz.hT rfl rfl rfl rfl rfl rfl rfl rfl rfl rfl rfl ?_; intro)
    refine wl_appendTo (V := V) (len := done.length) (xs := ss done) 0 1 Tryz.vec100 (done ++ [(l.take l.length).drop st]).length (ss (done ++ [(l.take l.length).drop st])) rfl rfl rfl rfl rfl rfl rfl rfl rfl rfl rfl hV rfl rfl hdn.symm (by rw [hdl]; rfl) (by rw [hdn]; simp only [maxLen]; omega) (by rw [hdn]; omega) rfl ?_
    intro g c1 j1 hV1
    refine wl_pure Tryz.hT rfl rfl rfl ?_
    refine wl_nil ?_
    refine zE ?_
    refine zB ?_
    iterate 3 refine wl_pure Tryz.hT rfl rfl rfl ?_
    refine wl_nil ?_
    refine zN ?_
    refine zE ?_
    refine zB ?_
    iterate 3 refine wl_pure Tryz.hT rfl rfl rfl ?_
    refine wl_nil ?_
    exact ne_loop (l.length + 1, l.length + 1, ⟨some g, c1, j1⟩, done ++ [(l.take l.length).drop st]) ⟨hw.last, hV1⟩ (by show l.length + 1 - (l.length + 1) < l.length + 1 - l.length; omega) ⟨rfl, rfl, congrArg (fun z => some (Value.int .i64 z)) (wrap_id (x := ((l.length : Nat) : Int) + 1) (by omega) (by omega)), congrArg (fun z => some (Value.int .i64 z)) (wrap_id (x := ((l.length : Nat) : Int) + 1) (by omega) (by omega)), trivial⟩ [_] rfl
  have hilt : i < l.length := by omega
  obtain ⟨b, hb⟩ : ∃ b, l[i]? = some b := ⟨_, List.getElem?_eq_getElem hilt⟩
  refine wl_upd 15 (.bool false) rfl (congrArg Value.bool (show (((i : Nat) : Int) == ((l.length : Nat) : Int)) = false by rw [beq_eq_false_iff_ne]; omega)) ?_
  iterate 3 refine wl_pure Tryz.hT rfl rfl rfl ?_
  refine wl_byte i Tryz.hT rfl rfl rfl rfl rfl rfl rfl rfl hb ?_
  refine wl_pure Tryz.hT rfl rfl rfl ?_
  by_cases hb32 : b = 32
  · subst hb32
    refine wl_upd 20 (.bool true) rfl rfl ?_
    refine wl_pure Tryz.hT rfl rfl rfl ?_
    refine wl_nil ?_
    refine zE ?_
    refine zR rfl ?_
    refine zA ?_
    refine zB ?_
    iterate 4 refine wl_pure Tryz.hT rfl rfl rfl ?_
    refine wl_subS st i Tryz.hT rfl rfl rfl rfl rfl rfl rfl rfl rfl rfl hst hi ?_
    (refine wl_buildRowZ Tryz.hZ Tryz.hT rfl rfl rfl rfl rfl rfl rfl rfl rfl rfl rfl ?_; intro)
    refine wl_appendTo (V := V) (len := done.length) (xs := ss done) 0 1 Tryz.vec100 (done ++ [(l.take i).drop st]).length (ss (done ++ [(l.take i).drop st])) rfl rfl rfl rfl rfl rfl rfl rfl rfl rfl rfl hV rfl rfl hdn.symm (by rw [hdl]; rfl) (by rw [hdn]; simp only [maxLen]; omega) (by rw [hdn]; omega) rfl ?_
    intro g c1 j1 hV1
    refine wl_pure Tryz.hT rfl rfl rfl ?_
    refine wl_nil ?_
    refine zE ?_
    refine zB ?_
    iterate 3 refine wl_pure Tryz.hT rfl rfl rfl ?_
    refine wl_nil ?_
    refine zN ?_
    refine zE ?_
    refine zB ?_
    iterate 3 refine wl_pure Tryz.hT rfl rfl rfl ?_
    refine wl_nil ?_
    exact ne_loop (i + 1, i + 1, ⟨some g, c1, j1⟩, done ++ [(l.take i).drop st]) ⟨hw.cut hb, hV1⟩ (by show l.length + 1 - (i + 1) < l.length + 1 - i; omega) ⟨rfl, rfl, congrArg (fun z => some (Value.int .i64 z)) (wrap_id (x := (i : Int) + 1) (by omega) (by omega)), congrArg (fun z => some (Value.int .i64 z)) (wrap_id (x := (i : Int) + 1) (by omega) (by omega)), trivial⟩ [_] rfl
  · have hbn : ((b.toNat : Int) == 32) = false := by
      rw [beq_eq_false_iff_ne]
      intro e
      exact hb32 (UInt8.toNat_inj.1 (by show b.toNat = 32; omega))
    refine wl_upd 20 (.bool false) rfl (congrArg Value.bool hbn) ?_
    refine wl_pure Tryz.hT rfl rfl rfl ?_
    refine wl_nil ?_
    refine zE ?_
    refine zS rfl ?_
    refine zI ?_
    refine zN ?_
    refine zE ?_
    refine zB ?_
    iterate 3 refine wl_pure Tryz.hT rfl rfl rfl ?_
    refine wl_nil ?_
    exact ne_loop (i + 1, st, V, done) ⟨hw.next hb hb32, hV⟩ (by show l.length + 1 - (i + 1) < l.length + 1 - i; omega) ⟨rfl, rfl, rfl, congrArg (fun z => some (Value.int .i64 z)) (wrap_id (x := (i : Int) + 1) (by omega) (by omega)), trivial⟩ [] rfl
end Go.Proofs.YtnpfkmbcejgnjaaGreatDoor
namespace Go.Proofs.YtnpfkmbcejgnjaaGreatDoor
open Go Go.RowKit Go.Am Go.Lib
set_option maxRecDepth 10000
-- BOXES 3
-- BOXIDX t2=0 t5=2
theorem splt_lens {c : UInt8} {l w : List UInt8} (hw : w ∈ splt c l) : w.length ≤ l.length := by
  have hjs := join_splt c l
  have h1 : w.length ≤ (join (splt c l) [c]).length := by
    generalize splt c l = ws at hw ⊢
    induction ws with
    | nil => cases hw
    | cons a r ih =>
      rcases List.mem_cons.1 hw with rfl | hw
      · rw [join_cons, List.length_append]; omega
      · cases r with
        | nil => cases hw
        | cons d r =>
          have := ih hw
          rw [join_more, List.length_append, List.length_cons]; omega
  rw [hjs] at h1
  exact h1
/-- Six words: a gable stands for two zeros. -/
def wsR (G : Bool) (ws : List (List UInt8)) : List (List UInt8) := if G then [ws.getD 0 [], ws.getD 1 [], [48], [48], ws.getD 3 [], ws.getD 4 []] else ws
def mk6 (G : Bool) : List Int → Option Sd
  | [a, b, c, d, e, f] => some ⟨a, b, c, d, G, e, f⟩
  | _ => none
theorem num48 : numW [48] = some 0 := numW_iff.2 ⟨itoa_zero.symm, Int.le_refl _, by rw [itoa_zero]; decide⟩
theorem sideP_six (l : List UInt8) : sideP l = (numsW (wsR (gabL l) (splt 32 l))).bind (mk6 (gabL l)) := by
  rw [sideP_eq]
  cases hg : gabL l with
  | true =>
    have h : (splt 32 l).length = 5 ∧ (splt 32 l)[2]? = some gableW := of_decide_eq_true hg
    generalize splt 32 l = ws at h
    match ws, h.1 with
    | [w0, w1, w2, w3, w4], _ =>
      show (numsW [w0, w1, w3, w4]).bind (mkG true) = (numsW [w0, w1, [48], [48], w3, w4]).bind (mk6 true)
      simp only [numsW, num48]
      cases numW w0 <;> cases numW w1 <;> cases numW w3 <;> cases numW w4 <;> rfl
  | false =>
    show (numsW (splt 32 l)).bind (mkG false) = (numsW (splt 32 l)).bind (mk6 false)
    cases numsW (splt 32 l) with
    | none => rfl
    | some ns =>
      match ns with
      | [] => rfl
      | [_] => rfl
      | [_, _] => rfl
      | [_, _, _] => rfl
      | [_, _, _, _] => rfl
      | [_, _, _, _, _] => rfl
      | [_, _, _, _, _, _] => rfl
      | _ :: _ :: _ :: _ :: _ :: _ :: _ :: _ => rfl
theorem numsW_snoc : ∀ {ws : List (List UInt8)} {ns : List Int} {w : List UInt8} {n : Int}, numsW ws = some ns → numW w = some n → numsW (ws ++ [w]) = some (ns ++ [n]) := fun {ws ns w n} h1 h2 => by
  obtain ⟨e1, h3⟩ := numsW_iff.1 h1
  obtain ⟨e2, h4⟩ := numW_iff.1 h2
  refine numsW_iff.2 ⟨by rw [e1, e2, List.map_append]; rfl, fun m hm => ?_⟩
  rcases List.mem_append.1 hm with hm | hm
  · exact h3 m hm
  · rw [List.mem_singleton.1 hm]; exact h4
set_option maxHeartbeats 8000000 in
theorem sideR_gives (W : World) (l : List UInt8) (hl : l.length ≤ 100000) (hv : VarsP W) (ht : TabP W) :
    CallsR Tryz.prog 102 #[str l] W (fun x : Sd × Bool => .tuple #[x.1.val, .bool x.2]) (SideOK l) (fun _ => []) := by
  refine calls_enter (args := [str l]) Tryz.func102 rfl rfl rfl ?_
  refine zA ?_
  refine zB ?_
  (refine wl_allocZ Tryz.hZ rfl rfl rfl rfl ?_; intro)
  refine wl_pure Tryz.hT rfl rfl rfl ?_
  refine wl_nil ?_
  rename_i b2
  refine zE ?_
  refine zA ?_
  refine zB ?_
  refine wl_pure Tryz.hT rfl rfl rfl ?_
  refine wl_call (X := Vec) rfl rfl rfl rfl rfl rfl (by kernel_rfl) (fun W hp => wordsR_gives W l (by omega)) ?_
  rintro ⟨pw, cw, jw⟩ hV
  have hlens : ∀ w ∈ splt 32 l, w.length ≤ 100000 := fun w hw => by have := splt_lens hw; omega
  have hne := splt_ne 32 l
  have h6 := sideP_six l
  have hgab : gabL l = decide ((splt 32 l).length = 5 ∧ (splt 32 l)[2]? = some gableW) := rfl
  have hV : (⟨pw, cw, jw⟩ : Vec).OK 1 (splt 32 l).length (ss (splt 32 l)) := hV
  generalize splt 32 l = ws at hV hlens hne h6 hgab ⊢
  cases pw with
  | none => exact absurd (List.length_eq_zero_iff.1 (hV.nil rfl)) hne
  | some gw =>
  have hwl : ws.length ≤ cw := (hV.cap (by simp)).1
  have hwm : cw ≤ maxLen := (hV.cap (by simp)).2.1
  simp only [maxLen] at hwm
  refine wl_pure Tryz.hT rfl rfl rfl ?_
  refine wl_nil ?_
  refine zE ?_
  refine zA ?_
  refine zB ?_
  (refine wl_allocZ Tryz.hZ rfl rfl rfl rfl ?_; intro)
  refine wl_nil ?_
  rename_i b5
  refine ne_then ?_
  refine wc_cut (X := Bool × Nat × Nat × List Value) (fun x => [(2, .pointer (some ⟨b2, 0, none⟩)), (4, .slice (some ⟨x.2.1, 0, none⟩) (wsR x.1 ws).length x.2.2.1), (5, .pointer (some ⟨b5, 0, none⟩))])
    (fun x => [⟨b2, 42, (default : Sd).cells, true, none⟩, ⟨x.2.1, 9, ss (wsR x.1 ws) ++ x.2.2.2, true, none⟩, ⟨b5, 42, (⟨0, 0, 0, 0, x.1, 0, 0⟩ : Sd).cells, true, none⟩]) (fun x => x.1 = gabL l) ?_ ?_
  · refine zA ?_
    refine zB ?_
    iterate 3 refine wl_pure Tryz.hT rfl rfl rfl ?_
    by_cases h5 : ws.length = 5
    rotate_left
    · refine wl_upd 14 (.bool false) rfl (congrArg Value.bool (show (((ws.length : Nat) : Int) == 5) = false by rw [beq_eq_false_iff_ne]; omega)) ?_
      refine wl_pure Tryz.hT rfl rfl rfl ?_
      iterate 4 refine wl_skip rfl rfl ?_
      refine wl_pure Tryz.hT rfl rfl rfl ?_
      refine wl_nil ?_
      refine zE ?_
      refine zS rfl ?_
      refine zI ?_
      exact ne_cutP (false, gw, cw, jw) (by rw [hgab]; exact (decide_eq_false (fun h => h5 h.1)).symm) ⟨rfl, rfl, rfl, trivial⟩ [0, 1, 2] (by decide) rfl
    have hget : ws[2]? = some (ws.getD 2 []) := by rw [List.getD_eq_getElem?_getD, List.getElem?_eq_getElem (show 2 < ws.length by omega)]; rfl
    refine wl_upd 14 (.bool true) rfl (congrArg Value.bool (show (((ws.length : Nat) : Int) == 5) = true by rw [beq_iff_eq]; omega)) ?_
    iterate 2 refine wl_pure Tryz.hT rfl rfl rfl ?_
    refine wl_indexAddr Tryz.hT rfl rfl rfl rfl rfl rfl rfl (by omega) (by omega) ?_
    refine wl_load rfl rfl rfl rfl (fun W hp => RowAt.load 0 Tryz.hT rfl ((fun W hp => ss_at hp 1 rfl (show 2 < ws.length by omega)) W hp) rfl) ?_
    refine wl_pure Tryz.hT rfl rfl rfl ?_
    by_cases hx : ws.getD 2 [] = gableW
    rotate_left
    · refine wl_upd 19 (.bool false) rfl (congrArg Value.bool (show ((⟨(ws.getD 2 []).toArray⟩ : ByteArray).toList == (⟨gableW.toArray⟩ : ByteArray).toList) = false by rw [str_eq, decide_eq_false hx])) ?_
      refine wl_pure Tryz.hT rfl rfl rfl ?_
      refine wl_nil ?_
      refine zE ?_
      refine zS rfl ?_
      refine zI ?_
      exact ne_cutP (false, gw, cw, jw) (by rw [hgab]; exact (decide_eq_false (fun h => hx (Option.some.inj (hget.symm.trans h.2)))).symm) ⟨rfl, rfl, rfl, trivial⟩ [0, 1, 2] (by decide) rfl
    refine wl_upd 19 (.bool true) rfl (congrArg Value.bool (show ((⟨(ws.getD 2 []).toArray⟩ : ByteArray).toList == (⟨gableW.toArray⟩ : ByteArray).toList) = true by rw [str_eq, decide_eq_true hx])) ?_
    refine wl_pure Tryz.hT rfl rfl rfl ?_
    refine wl_nil ?_
    refine zE ?_
    refine zR rfl ?_
    refine zA ?_
    refine zB ?_
    refine wl_pure Tryz.hT rfl rfl rfl ?_
    refine wl_storeBx 2 Tryz.hT rfl rfl rfl rfl rfl rfl rfl rfl rfl rfl rfl ?_
    refine wl_nil ?_
    refine zE ?_
    refine zT Tryz.mixed (by kernel_rfl) ?_
    refine wq_pure Tryz.hT rfl rfl rfl ?_
    refine wq_indexAddr Tryz.hT rfl rfl rfl rfl rfl rfl rfl (by omega) (by omega) ?_
    refine wq_load rfl rfl rfl rfl (fun W hp => RowAt.load 0 Tryz.hT rfl ((fun W hp => ss_at hp 1 rfl (show 0 < ws.length by omega)) W hp) rfl) ?_
    refine wq_pure Tryz.hT rfl rfl rfl ?_
    refine wq_indexAddr Tryz.hT rfl rfl rfl rfl rfl rfl rfl (by omega) (by omega) ?_
    refine wq_load rfl rfl rfl rfl (fun W hp => RowAt.load 0 Tryz.hT rfl ((fun W hp => ss_at hp 1 rfl (show 1 < ws.length by omega)) W hp) rfl) ?_
    refine wq_pure Tryz.hT rfl rfl rfl ?_
    refine wq_indexAddr Tryz.hT rfl rfl rfl rfl rfl rfl rfl (by omega) (by omega) ?_
    refine wq_load rfl rfl rfl rfl (fun W hp => RowAt.load 0 Tryz.hT rfl ((fun W hp => ss_at hp 1 rfl (show 3 < ws.length by omega)) W hp) rfl) ?_
    refine wq_pure Tryz.hT rfl rfl rfl ?_
    refine wq_indexAddr Tryz.hT rfl rfl rfl rfl rfl rfl rfl (by omega) (by omega) ?_
    refine wq_load rfl rfl rfl rfl (fun W hp => RowAt.load 0 Tryz.hT rfl ((fun W hp => ss_at hp 1 rfl (show 4 < ws.length by omega)) W hp) rfl) ?_
    refine wq_nil ?_
    (refine wl_buildRowZ Tryz.hZ Tryz.hT rfl rfl rfl rfl rfl rfl rfl rfl rfl rfl rfl ?_; intro)
    refine wl_pure Tryz.hT rfl rfl rfl ?_
    refine wl_nil ?_
    rename_i b34
    exact ne_cutP (true, b34, 6, []) (by rw [hgab]; exact (decide_eq_true ⟨h5, by rw [hget, hx]⟩).symm) ⟨rfl, rfl, rfl, trivial⟩ [0, 3, 2] (by decide) rfl
  rintro ⟨G, g, cp, junk⟩ hG
  change G = gabL l at hG
  rw [← hG] at h6
  simp only
  have hlens2 : ∀ w ∈ wsR G ws, w.length ≤ 100000 := fun w hw => by
    unfold wsR at hw
    cases G with
    | false => exact hlens w hw
    | true =>
      have hD : ∀ k, (ws.getD k []).length ≤ 100000 := fun k => by
        rw [List.getD_eq_getElem?_getD]
        cases hk : ws[k]? with
        | none => exact Nat.zero_le _
        | some v => exact hlens v (List.mem_of_getElem? hk)
      have hw : w ∈ [ws.getD 0 [], ws.getD 1 [], [48], [48], ws.getD 3 [], ws.getD 4 []] := hw
      simp only [List.mem_cons, List.not_mem_nil, or_false] at hw
      rcases hw with rfl | rfl | rfl | rfl | rfl | rfl <;> first | exact hD _ | decide
  generalize wsR G ws = xs at h6 hlens2 ⊢
  clear hG hgab hne hlens
  iterate 2 refine zA ?_
  refine zB ?_
  iterate 3 refine wl_pure Tryz.hT rfl rfl rfl ?_
  by_cases hx6 : xs.length = 6
  rotate_left
  · have hno : sideP l = none := by
      rw [h6]
      cases hn : numsW xs with
      | none => rfl
      | some ns =>
        have := numsW_len hn
        match ns, this with
        | [], _ => rfl
        | [_], _ => rfl
        | [_, _], _ => rfl
        | [_, _, _], _ => rfl
        | [_, _, _, _], _ => rfl
        | [_, _, _, _, _], _ => rfl
        | [_, _, _, _, _, _], h => exact absurd h.symm hx6
        | _ :: _ :: _ :: _ :: _ :: _ :: _ :: _, _ => rfl
    refine wl_upd 37 (.bool true) rfl (congrArg Value.bool (show (((xs.length : Nat) : Int) != 6) = true by rw [bne_iff_ne]; omega)) ?_
    refine wl_nil ?_
    refine zE ?_
    refine zR rfl ?_
    refine zA ?_
    refine zB ?_
    refine wl_buildZ Tryz.hZ Tryz.hT rfl rfl rfl rfl rfl rfl rfl rfl ?_
    refine wl_storeBx 0 Tryz.hT rfl rfl rfl rfl rfl rfl rfl rfl rfl rfl rfl ?_
    refine wl_pure Tryz.hT rfl rfl rfl ?_
    refine wl_nil ?_
    refine zE ?_
    refine zO ?_
    refine zP ?_
    exact ne_ret2 Tryz.hT rfl (.cell 0 rfl rfl rfl rfl rfl) (.tmp rfl) (default, false) rfl (.inr ⟨hno, rfl⟩) fun W _ => NewBx.nil _ _
  refine wl_upd 37 (.bool false) rfl (congrArg Value.bool (show (((xs.length : Nat) : Int) != 6) = false by rw [hx6]; rfl)) ?_
  refine wl_nil ?_
  refine zE ?_
  refine zS rfl ?_
  refine zI ?_
  refine zE ?_
  refine zA ?_
  refine zB ?_
  refine wl_pure Tryz.hT rfl rfl rfl ?_
  refine wl_nil ?_
  refine zE ?_
  iterate 2 refine zA ?_
  refine zB ?_
  refine wl_pure Tryz.hT rfl rfl rfl ?_
  refine wl_nil ?_
  refine zE ?_
  refine zH ?_
  refine wc_newGone ?_
  refine wc_loop (X := Nat × Vec × List Int) (fun x => [(2, .pointer (some ⟨b2, 0, none⟩)), (4, .slice (some ⟨g, 0, none⟩) xs.length cp), (5, .pointer (some ⟨b5, 0, none⟩)), (6, x.2.1.val x.2.2.length), (7, .int .i64 (x.1 : Nat))])
    (fun x => [⟨b2, 42, (default : Sd).cells, true, none⟩, ⟨g, 9, ss xs ++ junk, true, none⟩, ⟨b5, 42, (⟨0, 0, 0, 0, G, 0, 0⟩ : Sd).cells, true, none⟩, x.2.1.bx 3 (ci x.2.2)])
    (fun x => x.1 ≤ xs.length ∧ numsW (xs.take x.1) = some x.2.2 ∧ x.2.1.OK 1 x.2.2.length (ci x.2.2)) (fun x => xs.length - x.1) (0, Vec.empty, []) ⟨Nat.zero_le _, rfl, Vec.OK.empty 1⟩ ⟨rfl, rfl, rfl, rfl, rfl, trivial⟩ [] rfl ?_
  rintro ⟨i, U, ns⟩ ⟨hi, hns, hU⟩
  change i ≤ xs.length at hi
  change numsW (xs.take i) = some ns at hns
  change U.OK 1 ns.length (ci ns) at hU
  have hnl := numsW_len hns
  rw [List.length_take, Nat.min_eq_left hi] at hnl
  iterate 2 refine zA ?_
  refine zB ?_
  iterate 4 refine wl_pure Tryz.hT rfl rfl rfl ?_
  refine wl_nil ?_
  refine zE ?_
  refine wc_cond rfl (fun h => ?_) (fun h => ?_)
  · have hi : i < xs.length := by have h' : decide ((i : Int) < (xs.length : Nat)) = true := h; rw [decide_eq_true_iff] at h'; omega
    clear h
    obtain ⟨w, hw⟩ : ∃ w, xs.getD i [] = w := ⟨_, rfl⟩
    have hwi : xs[i]? = some w := by rw [← hw, List.getD_eq_getElem?_getD, List.getElem?_eq_getElem hi]; rfl
    refine zI ?_
    refine zE ?_
    refine zA ?_
    refine zH ?_
    refine zA ?_
    refine zB ?_
    iterate 2 refine wl_pure Tryz.hT rfl rfl rfl ?_
    refine wl_indexAddr Tryz.hT rfl rfl rfl rfl rfl rfl rfl (by omega) (by omega) ?_
    refine wl_load rfl rfl rfl rfl (fun W hp => RowAt.load 0 Tryz.hT rfl ((fun W hp => ss_at hp 1 rfl hi) W hp) rfl) ?_
    refine wl_upd 49 (str w) rfl (congrArg str hw) ?_
    refine wl_call (X := Int × Bool) rfl rfl rfl rfl rfl rfl (by kernel_rfl) (fun W hp => numberR_gives W w (by have := hlens2 w (List.mem_of_getElem? hwi); omega) (hv.hp hp) (ht.hp hp)) ?_
    rintro ⟨z, ok⟩ hz
    rcases hz with ⟨hz, e⟩ | ⟨hz, e⟩
    rotate_left
    · change ok = false at e
      subst e
      have hno : sideP l = none := by rw [h6, numsW_none hi (by rw [hw]; exact hz)]; rfl
      iterate 5 refine wl_pure Tryz.hT rfl rfl rfl ?_
      refine wl_nil ?_
      refine zE ?_
      iterate 2 refine zA ?_
      refine zB ?_
      iterate 2 refine wl_pure Tryz.hT rfl rfl rfl ?_
      refine wl_nil ?_
      refine zE ?_
      refine zR rfl ?_
      refine zA ?_
      refine zB ?_
      refine wl_buildZ Tryz.hZ Tryz.hT rfl rfl rfl rfl rfl rfl rfl rfl ?_
      refine wl_storeBx 0 Tryz.hT rfl rfl rfl rfl rfl rfl rfl rfl rfl rfl rfl ?_
      refine wl_pure Tryz.hT rfl rfl rfl ?_
      refine wl_nil ?_
      refine zE ?_
      refine zO ?_
      refine zP ?_
      refine zQ ?_
      iterate 2 refine zP ?_
      refine zQ ?_
      refine zP ?_
      exact ne_ret2 Tryz.hT rfl (.cell 0 rfl rfl rfl rfl rfl) (.tmp rfl) (default, false) rfl (.inr ⟨hno, rfl⟩) fun W _ => NewBx.nil _ _
    change ok = true at e
    subst e
    change numW w = some z at hz
    have htk : xs.take (i + 1) = xs.take i ++ [w] := by rw [List.take_add_one, hwi]; rfl
    have hdl : ci (ns ++ [z]) = ci ns ++ [.int .i64 z] := ci_append _ _
    have hdn : (ns ++ [z]).length = ns.length + 1 := by rw [List.length_append]; rfl
    iterate 5 refine wl_pure Tryz.hT rfl rfl rfl ?_
    refine wl_nil ?_
    refine zE ?_
    iterate 2 refine zA ?_
    refine zB ?_
    iterate 2 refine wl_pure Tryz.hT rfl rfl rfl ?_
    refine wl_nil ?_
    refine zE ?_
    refine zS rfl ?_
    refine zI ?_
    refine zE ?_
    refine zB ?_
    iterate 2 refine wl_pure Tryz.hT rfl rfl rfl ?_
    (refine wl_buildRowZ Tryz.hZ Tryz.hT rfl rfl rfl rfl rfl rfl rfl rfl rfl rfl rfl ?_; intro)
    refine wl_appendTo (V := U) (len := ns.length) (xs := ci ns) 3 4 Tryz.vec60 (ns ++ [z]).length (ci (ns ++ [z])) rfl rfl rfl rfl rfl rfl rfl rfl rfl rfl rfl hU rfl rfl hdn.symm (by rw [hdl]; rfl) (by rw [hdn]; simp only [maxLen]; omega) (by rw [hdn]; omega) rfl ?_
    intro g1 c1 j1 hU1
    refine wl_pure Tryz.hT rfl rfl rfl ?_
    refine wl_nil ?_
    refine zN ?_
    refine zE ?_
    refine zB ?_
    iterate 3 refine wl_pure Tryz.hT rfl rfl rfl ?_
    refine wl_nil ?_
    exact ne_loop (i + 1, ⟨some g1, c1, j1⟩, ns ++ [z]) ⟨hi, by show numsW (xs.take (i + 1)) = _; rw [htk]; exact numsW_snoc hns hz, hU1⟩ (by show xs.length - (i + 1) < xs.length - i; omega) ⟨rfl, rfl, rfl, rfl, congrArg (fun z => some (Value.int .i64 z)) (wrap_id (x := (i : Int) + 1) (by omega) (by omega)), trivial⟩ [_] rfl
  have e : i = xs.length := by have h' : decide ((i : Int) < (xs.length : Nat)) = false := h; rw [decide_eq_false_iff_not] at h'; omega
  subst e
  clear h
  rw [List.take_length] at hns
  obtain ⟨pU, cU, jU⟩ := U
  cases pU with
  | none => have := hU.nil rfl; omega
  | some gU =>
  have hn6 : ns.length = 6 := by omega
  match ns, hn6 with
  | [a, b, c, d, e, f], _ =>
    have hyes : sideP l = some ⟨a, b, c, d, G, e, f⟩ := by rw [h6, hns]; rfl
    refine zJ ?_
    iterate 2 refine zK ?_
    refine zL ?_
    refine zE ?_
    repeat refine wc_seq ?_
    refine wc_upd 6 (.slice (some ⟨gU, 0, none⟩) 6 cU) rfl rfl ?_
    refine wc_lateY (X := Unit) [true, true, true, true, true, true, true, true, true, true, true, true, true, true, true, true, true, true, true, false, false, false, false, false, false, false, false, false, false, false] (fun _ => [(2, .pointer (some ⟨b2, 0, none⟩)), (5, .pointer (some ⟨b5, 0, none⟩))]) (fun _ => [⟨b2, 42, (default : Sd).cells, true, none⟩, ⟨b5, 42, (⟨a, b, c, d, G, e, f⟩ : Sd).cells, true, none⟩])
      11 [gone, gone, gone, ⟨gU, 3, ci [a, b, c, d, e, f] ++ jU, true, none⟩] Tryz.mixed (by kernel_rfl) ?_ ?_
    · refine wq_pure Tryz.hT rfl rfl rfl ?_
      refine wq_indexAddr Tryz.hT rfl rfl rfl rfl rfl rfl rfl (by omega) (by omega) ?_
      refine wq_load rfl rfl rfl rfl (fun W hp => RowAt.load 0 Tryz.hT rfl ((fun W hp => ci_at hp 3 rfl (show 0 < 6 by decide)) W hp) rfl) ?_
      refine wq_pure Tryz.hT rfl rfl rfl ?_
      refine wq_indexAddr Tryz.hT rfl rfl rfl rfl rfl rfl rfl (by omega) (by omega) ?_
      refine wq_load rfl rfl rfl rfl (fun W hp => RowAt.load 0 Tryz.hT rfl ((fun W hp => ci_at hp 3 rfl (show 1 < 6 by decide)) W hp) rfl) ?_
      refine wq_pure Tryz.hT rfl rfl rfl ?_
      refine wq_indexAddr Tryz.hT rfl rfl rfl rfl rfl rfl rfl (by omega) (by omega) ?_
      refine wq_load rfl rfl rfl rfl (fun W hp => RowAt.load 0 Tryz.hT rfl ((fun W hp => ci_at hp 3 rfl (show 2 < 6 by decide)) W hp) rfl) ?_
      refine wq_pure Tryz.hT rfl rfl rfl ?_
      refine wq_indexAddr Tryz.hT rfl rfl rfl rfl rfl rfl rfl (by omega) (by omega) ?_
      refine wq_load rfl rfl rfl rfl (fun W hp => RowAt.load 0 Tryz.hT rfl ((fun W hp => ci_at hp 3 rfl (show 3 < 6 by decide)) W hp) rfl) ?_
      refine wq_pure Tryz.hT rfl rfl rfl ?_
      refine wq_indexAddr Tryz.hT rfl rfl rfl rfl rfl rfl rfl (by omega) (by omega) ?_
      refine wq_load rfl rfl rfl rfl (fun W hp => RowAt.load 0 Tryz.hT rfl ((fun W hp => ci_at hp 3 rfl (show 4 < 6 by decide)) W hp) rfl) ?_
      refine wq_pure Tryz.hT rfl rfl rfl ?_
      refine wq_indexAddr Tryz.hT rfl rfl rfl rfl rfl rfl rfl (by omega) (by omega) ?_
      refine wq_load rfl rfl rfl rfl (fun W hp => RowAt.load 0 Tryz.hT rfl ((fun W hp => ci_at hp 3 rfl (show 5 < 6 by decide)) W hp) rfl) ?_
      refine wq_pure Tryz.hT rfl rfl rfl ?_
      refine wq_wt ?_
      refine wt_step rfl rfl (by ((repeat (first | refine Weak.same ?_ | refine Weak.off rfl ?_)); exact trivial)) ?_
      refine RS.cons ?_ (RS.nil)
      refine wl_storeBx 2 Tryz.hT rfl rfl rfl rfl rfl rfl rfl rfl rfl rfl rfl ?_
      refine wl_nil ?_
      refine ne_wt ?_
      refine wt_step rfl rfl (by ((repeat (first | refine Weak.same ?_ | refine Weak.off rfl ?_)); exact trivial)) ?_
      refine RS.cons ?_ (RS.nil)
      refine wl_pure Tryz.hT rfl rfl rfl ?_
      refine wl_nil ?_
      refine ne_wt ?_
      refine wt_step rfl rfl (by ((repeat (first | refine Weak.same ?_ | refine Weak.off rfl ?_)); exact trivial)) ?_
      refine RS.cons ?_ (RS.nil)
      refine wl_storeBx 2 Tryz.hT rfl rfl rfl rfl rfl rfl rfl rfl rfl rfl rfl ?_
      refine wl_nil ?_
      refine ne_wt ?_
      refine wt_step rfl rfl (by ((repeat (first | refine Weak.same ?_ | refine Weak.off rfl ?_)); exact trivial)) ?_
      refine RS.cons ?_ (RS.nil)
      refine wl_pure Tryz.hT rfl rfl rfl ?_
      refine wl_nil ?_
      refine ne_wt ?_
      refine wt_step rfl rfl (by ((repeat (first | refine Weak.same ?_ | refine Weak.off rfl ?_)); exact trivial)) ?_
      refine RS.cons ?_ (RS.nil)
      refine wl_storeBx 2 Tryz.hT rfl rfl rfl rfl rfl rfl rfl rfl rfl rfl rfl ?_
      refine wl_nil ?_
      refine ne_wt ?_
      refine wt_step rfl rfl (by ((repeat (first | refine Weak.same ?_ | refine Weak.off rfl ?_)); exact trivial)) ?_
      refine RS.cons ?_ (RS.nil)
      refine wl_pure Tryz.hT rfl rfl rfl ?_
      refine wl_nil ?_
      refine ne_wt ?_
      refine wt_step rfl rfl (by ((repeat (first | refine Weak.same ?_ | refine Weak.off rfl ?_)); exact trivial)) ?_
      refine RS.cons ?_ (RS.nil)
      refine wl_storeBx 2 Tryz.hT rfl rfl rfl rfl rfl rfl rfl rfl rfl rfl rfl ?_
      refine wl_nil ?_
      refine ne_wt ?_
      refine wt_step rfl rfl (by ((repeat (first | refine Weak.same ?_ | refine Weak.off rfl ?_)); exact trivial)) ?_
      refine RS.cons ?_ (RS.nil)
      refine wl_pure Tryz.hT rfl rfl rfl ?_
      refine wl_nil ?_
      refine ne_wt ?_
      refine wt_step rfl rfl (by ((repeat (first | refine Weak.same ?_ | refine Weak.off rfl ?_)); exact trivial)) ?_
      refine RS.cons ?_ (RS.nil)
      refine wl_storeBx 2 Tryz.hT rfl rfl rfl rfl rfl rfl rfl rfl rfl rfl rfl ?_
      refine wl_nil ?_
      refine ne_wt ?_
      refine wt_step rfl rfl (by ((repeat (first | refine Weak.same ?_ | refine Weak.off rfl ?_)); exact trivial)) ?_
      refine RS.cons ?_ (RS.nil)
      refine wl_pure Tryz.hT rfl rfl rfl ?_
      refine wl_nil ?_
      refine ne_wt ?_
      refine wt_step rfl rfl (by ((repeat (first | refine Weak.same ?_ | refine Weak.off rfl ?_)); exact trivial)) ?_
      refine RS.cons ?_ (RS.nil)
      refine wl_storeBx 2 Tryz.hT rfl rfl rfl rfl rfl rfl rfl rfl rfl rfl rfl ?_
      refine wl_nil ?_
      refine ne_wt ?_
      refine wt_done rfl (by ((repeat (first | refine Weak.same ?_ | refine Weak.off rfl ?_)); exact trivial)) ?_
      exact ne_late () ⟨rfl, rfl, trivial⟩ [0, 2] (by decide) rfl
    intro _
    refine zE ?_
    refine zA ?_
    refine zB ?_
    refine wl_loadBx 1 Tryz.hT rfl rfl rfl rfl rfl rfl rfl rfl ?_
    refine wl_storeBx 0 Tryz.hT rfl rfl rfl rfl rfl rfl rfl rfl rfl rfl rfl ?_
    refine wl_pure Tryz.hT rfl rfl rfl ?_
    refine wl_nil ?_
    refine zE ?_
    refine zO ?_
    exact ne_ret2 Tryz.hT rfl (.cell 0 rfl rfl rfl rfl rfl) (.tmp rfl) (⟨a, b, c, d, G, e, f⟩, true) rfl (.inl ⟨_, hyes, rfl⟩) fun W _ => NewBx.nil _ _
end Go.Proofs.YtnpfkmbcejgnjaaGreatDoor
namespace Go.Proofs.YtnpfkmbcejgnjaaGreatDoor
open Go Go.RowKit Go.Am Go.Lib
set_option maxRecDepth 10000
-- BOXES 6
-- BOXIDX t2=0 t4=1 t8=5
/-- What Parse gives of any string. -/
def outT (s : List UInt8) : List (List Sd) × Int := if 65536 < s.length then ([], 4) else outP s
theorem none_out {o : List (List Sd) × Int} {c : Int} (e : o = ([], c)) : (Value.tuple #[.agg #[.slice none 0 0], .int .i64 c] = Value.tuple #[.agg #[Vec.empty.val o.1.length], .int .i64 o.2]) ∧ (MadeOK [] o.1 ∧ Vec.empty.OK 1 o.1.length (rowCells [])) := by
  subst e
  exact ⟨rfl, ⟨rfl, fun p hp => by cases hp⟩, Vec.OK.empty 1⟩
set_option maxHeartbeats 16000000 in
theorem parseR_gives (W : World) (s : List UInt8) (hs0 : s.length ≤ 1000000) (hv : VarsP W) (ht : TabP W) :
    CallsR Tryz.prog 45 #[str s] W (fun x : Vec × Made => .tuple #[.agg #[x.1.val (outT s).1.length], .int .i64 (outT s).2]) (fun x => MadeOK x.2 (outT s).1 ∧ x.1.OK 1 (outT s).1.length (rowCells x.2)) (fun x => [x.1.bx 27 (rowCells x.2), mkB x.2]) := by
  refine calls_enter (args := [str s]) Tryz.func45 rfl rfl rfl ?_
  refine zA ?_
  refine zB ?_
  (refine wl_allocZ Tryz.hZ rfl rfl rfl rfl ?_; intro)
  refine wl_pure Tryz.hT rfl rfl rfl ?_
  refine wl_nil ?_
  rename_i b2
  have hsz : (⟨s.toArray⟩ : ByteArray).size = s.length := by show s.toArray.size = _; simp
  refine zE ?_
  iterate 2 refine zA ?_
  refine zB ?_
  iterate 3 refine wl_pure Tryz.hT rfl rfl rfl ?_
  refine wl_nil ?_
  refine zE ?_
  refine wc_cond rfl (fun h => ?_) (fun h => ?_)
  · have h1 : 65536 < s.length := by
      have h' : decide (((⟨s.toArray⟩ : ByteArray).size : Int) > 65536) = true := h
      rw [hsz, decide_eq_true_iff] at h'; omega
    have e := none_out (o := outT s) (c := 4) (by unfold outT; rw [if_pos h1])
    refine zA ?_
    refine zB ?_
    refine wl_buildZ Tryz.hZ Tryz.hT rfl rfl rfl rfl rfl rfl rfl rfl ?_
    refine wl_storeBx 0 Tryz.hT rfl rfl rfl rfl rfl rfl rfl rfl rfl rfl rfl ?_
    refine wl_pure Tryz.hT rfl rfl rfl ?_
    refine wl_nil ?_
    refine zE ?_
    refine zO ?_
    refine zP ?_
    exact ne_ret2 Tryz.hT rfl (.cell 0 rfl rfl rfl rfl rfl) (.tmp rfl) (Vec.empty, []) e.1 e.2 fun W1 _ => own_none _ _
  have hs1 : s.length ≤ 65536 := by
    have h' : decide (((⟨s.toArray⟩ : ByteArray).size : Int) > 65536) = false := h
    rw [hsz, decide_eq_false_iff_not] at h'; omega
  clear h
  have hoT : outT s = outP s := by unfold outT; rw [if_neg (by omega)]
  refine zI ?_
  refine zE ?_
  refine zA ?_
  refine zB ?_
  (refine wl_allocZ Tryz.hZ rfl rfl rfl rfl ?_; intro)
  refine wl_nil ?_
  rename_i b4
  refine zE ?_
  refine zA ?_
  refine zB ?_
  refine wl_pure Tryz.hT rfl rfl rfl ?_
  refine wl_nil ?_
  refine zE ?_
  iterate 2 refine zA ?_
  refine zB ?_
  refine wl_pure Tryz.hT rfl rfl rfl ?_
  refine wl_nil ?_
  refine zE ?_
  refine zH ?_
  refine wc_newGone ?_
  refine wc_newGrp ?_
  refine wc_newGone ?_
  refine wc_loop (X := Nat × Nat × Made × Option (Vec × List Sd) × Vec) (fun x => [(0, str s), (2, .pointer (some ⟨b2, 0, none⟩)), (4, .pointer (some ⟨b4, 0, none⟩)), (5, .int .i64 (x.2.1 : Nat)), (6, .int .i64 (x.1 : Nat))])
    (fun x => [⟨b2, 24, [.slice none 0 0], true, none⟩, ⟨b4, 24, [x.2.2.2.2.val (x.2.2.1 ++ curL x.2.2.2.1).length], true, none⟩, x.2.2.2.2.bx 27 (rowCells (x.2.2.1 ++ curL x.2.2.2.1)), mkB x.2.2.1, curB x.2.2.2.1])
    (fun x => (x.1 ≤ s.length ∧ x.2.1 ≤ x.1 ∧ 10 ∉ (s.take x.1).drop x.2.1) ∧ PInv s x.2.2.1 x.2.2.2.1 x.2.2.2.2 (s.drop x.2.1)) (fun x => s.length - x.1) (0, 0, [], none, Vec.empty) ⟨⟨Nat.zero_le _, Nat.le_refl _, by simp⟩, ⟨⟨rfl, fun p hp => by cases hp⟩, Vec.OK.empty 1, fun _ => rfl, by show 0 + 0 + s.length ≤ _; omega, rfl⟩⟩ ⟨rfl, rfl, rfl, rfl, rfl, trivial⟩ [] rfl ?_
  rintro ⟨i, st, mk, cur, V⟩ ⟨⟨hi, hst, hno⟩, hok, hrow, hnone, hsize, hpar⟩
  change i ≤ s.length at hi
  change st ≤ i at hst
  change 10 ∉ (s.take i).drop st at hno
  simp only at hok hrow hnone hsize hpar
  have hdrop := cut_mid hst hi
  iterate 2 refine zA ?_
  refine zB ?_
  iterate 3 refine wl_pure Tryz.hT rfl rfl rfl ?_
  refine wl_upd 18 (.int .i64 (s.length : Nat)) rfl (congrArg (fun n : Nat => Value.int .i64 n) hsz) ?_
  refine wl_pure Tryz.hT rfl rfl rfl ?_
  refine wl_nil ?_
  refine zE ?_
  refine wc_cond rfl (fun h => ?_) (fun h => ?_)
  rotate_left
  · have e0 : i = s.length := by have h' : decide ((i : Int) < (s.length : Nat)) = false := h; rw [decide_eq_false_iff_not] at h'; omega
    subst e0
    clear h
    rw [List.drop_length, List.append_nil] at hdrop
    refine zJ ?_
    iterate 2 refine zK ?_
    refine zL ?_
    refine zE ?_
    iterate 2 refine zA ?_
    refine zB ?_
    iterate 3 refine wl_pure Tryz.hT rfl rfl rfl ?_
    refine wl_upd 70 (.int .i64 (s.length : Nat)) rfl (congrArg (fun n : Nat => Value.int .i64 n) hsz) ?_
    refine wl_pure Tryz.hT rfl rfl rfl ?_
    refine wl_nil ?_
    refine zE ?_
    refine wc_cond rfl (fun h => ?_) (fun h => ?_)
    · have hlt : st < s.length := by have h' : decide ((st : Int) < (s.length : Nat)) = true := h; rw [decide_eq_true_iff] at h'; omega
      have hout : outT s = ([], 3) := by
        rw [hoT]; unfold outP
        rw [← hpar, parseF_miss (by rw [hdrop]; exact hno) (by intro e; have := congrArg List.length e; rw [List.length_drop] at this; simp at this; omega)]
      have e := none_out hout
      refine zA ?_
      refine zB ?_
      refine wl_buildZ Tryz.hZ Tryz.hT rfl rfl rfl rfl rfl rfl rfl rfl ?_
      refine wl_storeBx 0 Tryz.hT rfl rfl rfl rfl rfl rfl rfl rfl rfl rfl rfl ?_
      refine wl_pure Tryz.hT rfl rfl rfl ?_
      refine wl_nil ?_
      refine zE ?_
      refine zO ?_
      refine zP ?_
      exact ne_ret2 Tryz.hT rfl (.cell 0 rfl rfl rfl rfl rfl) (.tmp rfl) (Vec.empty, []) e.1 e.2 fun W1 _ => own_none _ _
    have hge : s.length ≤ st := by have h' : decide ((st : Int) < (s.length : Nat)) = false := h; rw [decide_eq_false_iff_not] at h'; omega
    clear h
    rw [List.drop_eq_nil_of_le hge, parseF_nil] at hpar
    obtain ⟨full, hfull⟩ : ∃ full, full = mk ++ curL cur := ⟨_, rfl⟩
    have hjoin := cur_blk mk cur
    rw [← hfull] at hok hrow hsize hpar hjoin ⊢
    have hlen : (rgs full).length = full.length := List.length_map ..
    rw [← hlen] at hrow ⊢
    obtain ⟨q, cap, eq, fq⟩ := made_rings hok hrow
    rw [eq]
    refine zI ?_
    refine zE ?_
    iterate 2 refine zA ?_
    refine zB ?_
    refine wl_join 3 4 (mkB full) rfl rfl rfl hjoin ?_
    refine wl_loadBx 1 Tryz.hT rfl rfl rfl rfl rfl rfl rfl rfl ?_
    refine wl_call1 rfl rfl rfl rfl rfl rfl (by kernel_rfl) (fun W hp => refChk_gives W q cap (rgs full) (by omega) (by omega) (fq hp 2 3 rfl rfl)) ?_
    refine wl_pure Tryz.hT rfl rfl rfl ?_
    refine wl_nil ?_
    refine zE ?_
    refine zA ?_
    refine zB ?_
    iterate 2 refine wl_pure Tryz.hT rfl rfl rfl ?_
    refine wl_nil ?_
    refine zE ?_
    refine wc_cond rfl (fun hx => ?_) (fun hx => ?_)
    · have hc : chk (rgs full) ≠ 0 := by
        have h' : (chk (rgs full) != 0) = true := hx
        simpa using h'
      have hout : outT s = ([], chk (rgs full)) := by rw [hoT]; unfold outP; rw [← hpar]; show (if _ then _ else _) = _; rw [if_neg hc]
      have e := none_out hout
      refine zA ?_
      refine zB ?_
      refine wl_buildZ Tryz.hZ Tryz.hT rfl rfl rfl rfl rfl rfl rfl rfl ?_
      refine wl_pure Tryz.hT rfl rfl rfl ?_
      refine wl_storeBx 0 Tryz.hT rfl rfl rfl rfl rfl rfl rfl rfl rfl rfl rfl ?_
      refine wl_pure Tryz.hT rfl rfl rfl ?_
      refine wl_nil ?_
      refine zE ?_
      refine zO ?_
      refine zP ?_
      exact ne_ret2 Tryz.hT rfl (.cell 0 rfl rfl rfl rfl rfl) (.tmp rfl) (Vec.empty, []) e.1 e.2 fun W1 _ => own_none _ _
    · have hc : chk (rgs full) = 0 := by
        have h' : (chk (rgs full) != 0) = false := hx
        simpa using h'
      have hout : outT s = (rgs full, 0) := by rw [hoT]; unfold outP; rw [← hpar]; show (if _ then _ else _) = _; rw [if_pos hc]
      refine zI ?_
      refine zE ?_
      refine zA ?_
      refine zB ?_
      refine wl_loadBx 1 Tryz.hT rfl rfl rfl rfl rfl rfl rfl rfl ?_
      refine wl_storeBx 0 Tryz.hT rfl rfl rfl rfl rfl rfl rfl rfl rfl rfl rfl ?_
      refine wl_pure Tryz.hT rfl rfl rfl ?_
      refine wl_nil ?_
      refine zE ?_
      refine zO ?_
      refine ne_ret2 Tryz.hT rfl (.cell 0 rfl rfl rfl rfl rfl) (.tmp rfl) (V, full) ?_ ?_ fun W1 hp => (hp.pick [2, 3] (by decide) rfl).own
      · simp only [hout, eq]; rfl
      · simp only [hout]; exact ⟨hok, hrow⟩
  have hilt : i < s.length := by have h' : decide ((i : Int) < (s.length : Nat)) = true := h; rw [decide_eq_true_iff] at h'; omega
  clear h
  obtain ⟨c, hc⟩ : ∃ c, s[i]? = some c := ⟨_, List.getElem?_eq_getElem hilt⟩
  refine zI ?_
  refine zE ?_
  refine zA ?_
  refine zH ?_
  iterate 2 refine zA ?_
  refine zB ?_
  iterate 2 refine wl_pure Tryz.hT rfl rfl rfl ?_
  refine wl_byte i Tryz.hT rfl rfl rfl rfl rfl rfl rfl rfl hc ?_
  refine wl_pure Tryz.hT rfl rfl rfl ?_
  by_cases hc10 : c = 10
  rotate_left
  · have hbn : ((c.toNat : Int) != 10) = true := by
      rw [bne_iff_ne]
      intro e
      exact hc10 (UInt8.toNat_inj.1 (by show c.toNat = 10; omega))
    refine wl_upd 25 (.bool true) rfl (congrArg Value.bool hbn) ?_
    refine wl_nil ?_
    refine zE ?_
    refine zR rfl ?_
    refine zJ ?_
    refine zK ?_
    refine zL ?_
    refine zE ?_
    refine zB ?_
    iterate 3 refine wl_pure Tryz.hT rfl rfl rfl ?_
    refine wl_nil ?_
    refine ne_loop (i + 1, st, mk, cur, V) ⟨⟨hilt, by show st ≤ i + 1; omega, ?_⟩, hok, hrow, hnone, hsize, hpar⟩ (by show s.length - (i + 1) < s.length - i; omega) ⟨rfl, rfl, rfl, rfl, congrArg (fun z => some (Value.int .i64 z)) (wrap_id (x := (i : Int) + 1) (by omega) (by omega)), trivial⟩ [] rfl
    show 10 ∉ (s.take (i + 1)).drop st
    rw [List.take_add_one, hc, List.drop_append_of_le_length (by rw [List.length_take]; omega)]
    intro hm
    rcases List.mem_append.1 hm with hm | hm
    · exact hno hm
    · exact hc10 (List.mem_singleton.1 hm).symm
  subst hc10
  refine wl_upd 25 (.bool false) rfl rfl ?_
  refine wl_nil ?_
  obtain ⟨a, haa⟩ : ∃ a, (s.take i).drop st = a := ⟨_, rfl⟩
  obtain ⟨b, hbb⟩ : ∃ b, s.drop (i + 1) = b := ⟨_, rfl⟩
  have hsab : s.drop st = a ++ 10 :: b := by
    rw [hdrop, haa, List.drop_eq_getElem_cons hilt, (List.getElem?_eq_some_iff.1 hc).2, hbb]
  rw [haa] at hno
  rw [hsab] at hsize hpar
  rw [parseF_at b hno] at hpar
  have hlab : (a ++ 10 :: b).length = a.length + b.length + 1 := by rw [List.length_append, List.length_cons]; omega
  rw [hlab] at hsize
  have hno2 : 10 ∉ (s.take (i + 1)).drop (i + 1) := by
    rw [List.drop_eq_nil_of_le (by rw [List.length_take]; omega)]
    exact List.not_mem_nil
  refine zE ?_
  refine zS rfl ?_
  refine zI ?_
  refine zE ?_
  refine zA ?_
  refine zB ?_
  iterate 3 refine wl_pure Tryz.hT rfl rfl rfl ?_
  refine wl_subS st i Tryz.hT rfl rfl rfl rfl rfl rfl rfl rfl rfl rfl hst hi ?_
  refine wl_upd 29 (str a) rfl (congrArg str haa) ?_
  refine wl_pure Tryz.hT rfl rfl rfl ?_
  refine wl_nil ?_
  refine zE ?_
  refine zA ?_
  refine zB ?_
  iterate 3 refine wl_pure Tryz.hT rfl rfl rfl ?_
  refine wl_nil ?_
  refine zE ?_
  iterate 2 refine zA ?_
  refine zB ?_
  iterate 2 refine wl_pure Tryz.hT rfl rfl rfl ?_
  refine wl_nil ?_
  refine zE ?_
  refine wc_cond rfl (fun hx => ?_) (fun hx => ?_)
  · have hr : a = ringW := by
      have h' : ((⟨a.toArray⟩ : ByteArray).toList == (⟨ringW.toArray⟩ : ByteArray).toList) = true := hx
      rw [str_eq, decide_eq_true_iff] at h'
      exact h'
    rw [if_pos hr] at hpar
    obtain ⟨full, hfull⟩ : ∃ full, full = mk ++ curL cur := ⟨_, rfl⟩
    have hjoin := cur_blk mk cur
    rw [← hfull] at hok hrow hsize hpar hjoin ⊢
    refine zA ?_
    refine zB ?_
    refine wl_pure Tryz.hT rfl rfl rfl ?_
    refine wl_loadBx 1 Tryz.hT rfl rfl rfl rfl rfl rfl rfl rfl ?_
    (refine wl_buildRowZ Tryz.hZ Tryz.hT rfl rfl rfl rfl rfl rfl rfl rfl rfl rfl rfl ?_; intro)
    rename_i b32
    refine wl_appendTo (V := V) (len := full.length) (xs := rowCells full) 2 5 Tryz.vec22 (full ++ [(Vec.empty, [])]).length (rowCells (full ++ [(Vec.empty, [])])) rfl rfl rfl rfl rfl rfl rfl rfl rfl rfl rfl hrow rfl rfl (by rw [List.length_append]; rfl) (by rw [rowCells_snoc]; rfl) (by rw [List.length_append, List.length_singleton]; simp only [maxLen]; omega) (by rw [List.length_append, List.length_singleton]; omega) rfl ?_
    intro g c1 j1 hV1
    refine wl_pure Tryz.hT rfl rfl rfl ?_
    refine wl_storeBx 1 Tryz.hT rfl rfl rfl rfl rfl rfl rfl rfl rfl rfl rfl ?_
    refine wl_nil ?_
    refine zE ?_
    refine zJ ?_
    refine zK ?_
    refine zL ?_
    refine zE ?_
    refine zB ?_
    iterate 3 refine wl_pure Tryz.hT rfl rfl rfl ?_
    refine wl_nil ?_
    refine ne_join 3 4 (mkB full) rfl rfl rfl hjoin ?_
    refine ne_loop (i + 1, i + 1, full, some (Vec.empty, []), ⟨some g, c1, j1⟩) ⟨⟨hilt, Nat.le_refl _, hno2⟩, ?_, hV1, fun h => (by cases h), ?_, ?_⟩ (by show s.length - (i + 1) < s.length - i; omega) ⟨rfl, rfl, rfl, congrArg (fun z => some (Value.int .i64 z)) (wrap_id (x := (i : Int) + 1) (by omega) (by omega)), congrArg (fun z => some (Value.int .i64 z)) (wrap_id (x := (i : Int) + 1) (by omega) (by omega)), trivial⟩ [_] rfl
    · show MadeOK (full ++ [(Vec.empty, [])]) (rgs (full ++ [(Vec.empty, [])]))
      rw [rgs_snoc]; exact hok.snoc (Vec.OK.empty 7)
    · show (full ++ [(Vec.empty, [])]).length + tot (rgs (full ++ [(Vec.empty, [])])) + (s.drop (i + 1)).length ≤ 65536
      rw [rgs_snoc, tot_snoc, List.length_append, List.length_singleton, List.length_nil, hbb]; omega
    · show parseF (rgs (full ++ [(Vec.empty, [])])) (s.drop (i + 1)) = _
      rw [rgs_snoc, hbb]; exact hpar
  have hr : a ≠ ringW := by
    have h' : ((⟨a.toArray⟩ : ByteArray).toList == (⟨ringW.toArray⟩ : ByteArray).toList) = false := hx
    rw [str_eq, decide_eq_false_iff_not] at h'
    exact h'
  clear hx
  rw [if_neg hr] at hpar
  refine zI ?_
  refine zE ?_
  refine zA ?_
  refine zB ?_
  refine wl_pure Tryz.hT rfl rfl rfl ?_
  refine wl_call (X := Sd × Bool) rfl rfl rfl rfl rfl rfl (by kernel_rfl) (fun W hp => sideR_gives W a (by omega) (hv.hp hp) (ht.hp hp)) ?_
  rintro ⟨sx, okb⟩ hside
  iterate 3 refine wl_pure Tryz.hT rfl rfl rfl ?_
  (refine wl_allocZ Tryz.hZ rfl rfl rfl rfl ?_; intro)
  refine wl_storeBx 5 Tryz.hT rfl rfl rfl rfl rfl rfl rfl rfl rfl rfl rfl ?_
  refine wl_pure Tryz.hT rfl rfl rfl ?_
  refine wl_nil ?_
  rename_i b8
  rcases hside with ⟨sy, hx, e⟩ | ⟨hx, e⟩
  rotate_left
  · change okb = false at e
    subst e
    rw [hx] at hpar
    have hout : outT s = ([], 3) := by rw [hoT]; unfold outP; rw [← hpar]
    have e := none_out hout
    obtain ⟨pv, cv, jv⟩ := V
    cases pv with
    | none =>
      refine zE ?_
      refine zA ?_
      refine zB ?_
      refine wl_pure Tryz.hT rfl rfl rfl ?_
      refine wl_loadBx 1 Tryz.hT rfl rfl rfl rfl rfl rfl rfl rfl ?_
      iterate 2 refine wl_pure Tryz.hT rfl rfl rfl ?_
      refine wl_nil ?_
      refine zE ?_
      iterate 2 refine zA ?_
      refine zB ?_
      iterate 3 refine wl_pure Tryz.hT rfl rfl rfl ?_
      iterate 2 refine wl_skip rfl rfl ?_
      refine wl_pure Tryz.hT rfl rfl rfl ?_
      refine wl_nil ?_
      refine zE ?_
      refine zR rfl ?_
      refine zA ?_
      refine zB ?_
      refine wl_buildZ Tryz.hZ Tryz.hT rfl rfl rfl rfl rfl rfl rfl rfl ?_
      refine wl_storeBx 0 Tryz.hT rfl rfl rfl rfl rfl rfl rfl rfl rfl rfl rfl ?_
      refine wl_pure Tryz.hT rfl rfl rfl ?_
      refine wl_nil ?_
      refine zE ?_
      refine zO ?_
      refine zP ?_
      refine zQ ?_
      iterate 2 refine zP ?_
      refine zQ ?_
      refine zP ?_
      exact ne_ret2 Tryz.hT rfl (.cell 0 rfl rfl rfl rfl rfl) (.tmp rfl) (Vec.empty, []) e.1 e.2 fun W1 _ => own_none _ _
    | some g =>
      refine zE ?_
      refine zA ?_
      refine zB ?_
      refine wl_pure Tryz.hT rfl rfl rfl ?_
      refine wl_loadBx 1 Tryz.hT rfl rfl rfl rfl rfl rfl rfl rfl ?_
      iterate 2 refine wl_pure Tryz.hT rfl rfl rfl ?_
      refine wl_nil ?_
      refine zE ?_
      iterate 2 refine zA ?_
      refine zB ?_
      iterate 3 refine wl_pure Tryz.hT rfl rfl rfl ?_
      iterate 2 refine wl_skip rfl rfl ?_
      refine wl_pure Tryz.hT rfl rfl rfl ?_
      refine wl_nil ?_
      refine zE ?_
      refine zR rfl ?_
      refine zA ?_
      refine zB ?_
      refine wl_buildZ Tryz.hZ Tryz.hT rfl rfl rfl rfl rfl rfl rfl rfl ?_
      refine wl_storeBx 0 Tryz.hT rfl rfl rfl rfl rfl rfl rfl rfl rfl rfl rfl ?_
      refine wl_pure Tryz.hT rfl rfl rfl ?_
      refine wl_nil ?_
      refine zE ?_
      refine zO ?_
      refine zP ?_
      refine zQ ?_
      iterate 2 refine zP ?_
      refine zQ ?_
      refine zP ?_
      exact ne_ret2 Tryz.hT rfl (.cell 0 rfl rfl rfl rfl rfl) (.tmp rfl) (Vec.empty, []) e.1 e.2 fun W1 _ => own_none _ _
  injection e with e4 e5
  subst e4 e5
  rw [hx] at hpar
  cases cur with
  | none =>
    have hmk := hnone rfl
    subst hmk
    have hout : outT s = ([], 3) := by rw [hoT]; unfold outP; rw [← hpar]; rfl
    have e := none_out hout
    obtain ⟨pv, cv, jv⟩ := V
    cases pv with
    | none =>
      refine zE ?_
      refine zA ?_
      refine zB ?_
      refine wl_pure Tryz.hT rfl rfl rfl ?_
      refine wl_loadBx 1 Tryz.hT rfl rfl rfl rfl rfl rfl rfl rfl ?_
      iterate 2 refine wl_pure Tryz.hT rfl rfl rfl ?_
      refine wl_nil ?_
      refine zE ?_
      iterate 2 refine zA ?_
      refine zB ?_
      iterate 5 refine wl_pure Tryz.hT rfl rfl rfl ?_
      refine wl_upd 51 (.bool true) rfl rfl ?_
      refine wl_pure Tryz.hT rfl rfl rfl ?_
      refine wl_nil ?_
      refine zE ?_
      refine zR rfl ?_
      refine zA ?_
      refine zB ?_
      refine wl_buildZ Tryz.hZ Tryz.hT rfl rfl rfl rfl rfl rfl rfl rfl ?_
      refine wl_storeBx 0 Tryz.hT rfl rfl rfl rfl rfl rfl rfl rfl rfl rfl rfl ?_
      refine wl_pure Tryz.hT rfl rfl rfl ?_
      refine wl_nil ?_
      refine zE ?_
      refine zO ?_
      refine zP ?_
      refine zQ ?_
      iterate 2 refine zP ?_
      refine zQ ?_
      refine zP ?_
      exact ne_ret2 Tryz.hT rfl (.cell 0 rfl rfl rfl rfl rfl) (.tmp rfl) (Vec.empty, []) e.1 e.2 fun W1 _ => own_none _ _
    | some g =>
      refine zE ?_
      refine zA ?_
      refine zB ?_
      refine wl_pure Tryz.hT rfl rfl rfl ?_
      refine wl_loadBx 1 Tryz.hT rfl rfl rfl rfl rfl rfl rfl rfl ?_
      iterate 2 refine wl_pure Tryz.hT rfl rfl rfl ?_
      refine wl_nil ?_
      refine zE ?_
      iterate 2 refine zA ?_
      refine zB ?_
      iterate 5 refine wl_pure Tryz.hT rfl rfl rfl ?_
      refine wl_upd 51 (.bool true) rfl rfl ?_
      refine wl_pure Tryz.hT rfl rfl rfl ?_
      refine wl_nil ?_
      refine zE ?_
      refine zR rfl ?_
      refine zA ?_
      refine zB ?_
      refine wl_buildZ Tryz.hZ Tryz.hT rfl rfl rfl rfl rfl rfl rfl rfl ?_
      refine wl_storeBx 0 Tryz.hT rfl rfl rfl rfl rfl rfl rfl rfl rfl rfl rfl ?_
      refine wl_pure Tryz.hT rfl rfl rfl ?_
      refine wl_nil ?_
      refine zE ?_
      refine zO ?_
      refine zP ?_
      refine zQ ?_
      iterate 2 refine zP ?_
      refine zQ ?_
      refine zP ?_
      exact ne_ret2 Tryz.hT rfl (.cell 0 rfl rfl rfl rfl rfl) (.tmp rfl) (Vec.empty, []) e.1 e.2 fun W1 _ => own_none _ _
  | some p =>
  obtain ⟨U, l⟩ := p
  change MadeOK (mk ++ [(U, l)]) (rgs (mk ++ [(U, l)])) at hok
  change V.OK 1 (mk ++ [(U, l)]).length (rowCells (mk ++ [(U, l)])) at hrow
  change (mk ++ [(U, l)]).length + tot (rgs (mk ++ [(U, l)])) + (a.length + b.length + 1) ≤ 65536 at hsize
  change (if rgs (mk ++ [(U, l)]) = [] then none else parseF ((rgs (mk ++ [(U, l)])).dropLast ++ [(rgs (mk ++ [(U, l)])).getLastD [] ++ [sx]]) b) = parseF [] s at hpar
  rw [rgs_snoc, if_neg (by simp), List.dropLast_concat] at hpar
  have hlast : (rgs mk ++ [l]).getLastD [] = l := by simp
  rw [hlast] at hpar
  have hnl : (mk ++ [(U, l)]).length = mk.length + 1 := by rw [List.length_append]; rfl
  rw [rgs_snoc, tot_snoc] at hsize
  have hUok : U.OK 7 l.length (cellsOf l) := hok.ok (U, l) (List.mem_append_right _ (List.mem_singleton.2 rfl))
  obtain ⟨pv, cv, jv⟩ := V
  cases pv with
  | none => have := hrow.nil rfl; omega
  | some g =>
  refine zE ?_
  refine zA ?_
  refine zB ?_
  refine wl_pure Tryz.hT rfl rfl rfl ?_
  refine wl_loadBx 1 Tryz.hT rfl rfl rfl rfl rfl rfl rfl rfl ?_
  iterate 2 refine wl_pure Tryz.hT rfl rfl rfl ?_
  refine wl_nil ?_
  refine zE ?_
  iterate 2 refine zA ?_
  refine zB ?_
  iterate 5 refine wl_pure Tryz.hT rfl rfl rfl ?_
  refine wl_upd 51 (.bool false) rfl (congrArg Value.bool (show ((((mk ++ [(U, l)]).length : Nat) : Int) == 0) = false by rw [beq_eq_false_iff_ne]; omega)) ?_
  refine wl_pure Tryz.hT rfl rfl rfl ?_
  refine wl_nil ?_
  refine zE ?_
  refine zS rfl ?_
  refine zI ?_
  refine zE ?_
  repeat refine wc_seq ?_
  have hrc : rowCells (mk ++ [(U, l)]) = rowCells mk ++ [U.val l.length] := rowCells_snoc mk U l
  have hval : (rowCells (mk ++ [(U, l)]))[mk.length]? = some (U.val l.length) := by rw [hrc, List.getElem?_append_right (by rw [rows_len]; exact Nat.le_refl _), rows_len, Nat.sub_self]; rfl
  have hfit := (hrow.cap (by simp)).2.2
  simp only at hfit
  have hl1 : (l ++ [sx]).length = l.length + 1 := by rw [List.length_append]; rfl
  have hcl : cellsOf (l ++ [sx]) = cellsOf l ++ sx.cells := by rw [cellsOf_append]; simp [cellsOf]
  have hn1 : w64 ((((mk ++ [(U, l)]).length : Nat) : Int) - 1) = (mk.length : Nat) := by rw [w64_id (by omega) (by omega)]; omega
  refine wc_lateY (X := { x : Nat × Nat × List Value // (⟨some x.1, x.2.1, x.2.2⟩ : Vec).OK 7 (l ++ [sx]).length (cellsOf (l ++ [sx])) }) [true, true, true, true, true, true, true, true, true, true, true, false, false, false, false] (fun _ => [(0, str s), (2, .pointer (some ⟨b2, 0, none⟩)), (4, .pointer (some ⟨b4, 0, none⟩)), (5, .int .i64 ((i + 1 : Nat) : Int)), (6, .int .i64 (i : Nat))])
    (fun x => [⟨b2, 24, [.slice none 0 0], true, none⟩, ⟨b4, 24, [.slice (some ⟨g, 0, none⟩) (mk ++ [(U, l)]).length cv], true, none⟩, ⟨g, 27, rowCells (mk ++ [((⟨some x.1.1, x.1.2.1, x.1.2.2⟩ : Vec), l ++ [sx])]) ++ jv, true, none⟩, mkB mk, ⟨x.1.1, 42, cellsOf (l ++ [sx]) ++ x.1.2.2, true, none⟩])
    4 [⟨b2, 24, [.slice none 0 0], true, none⟩, ⟨b4, 24, [.slice (some ⟨g, 0, none⟩) (mk ++ [(U, l)]).length cv], true, none⟩, ⟨g, 27, rowCells (mk ++ [(U, l)]) ++ jv, true, none⟩, mkB mk, gone, ⟨b8, 42, sx.cells, true, none⟩] Tryz.mixed (by kernel_rfl) ?_ ?_
  · refine wq_pure Tryz.hT rfl rfl rfl ?_
    refine wq_loadBx 1 Tryz.hT rfl rfl rfl rfl rfl rfl rfl rfl ?_
    iterate 2 refine wq_pure Tryz.hT rfl rfl rfl ?_
    refine wq_upd 57 (.int .i64 (mk.length : Nat)) rfl (congrArg (Value.int .i64) hn1) ?_
    refine wq_pure Tryz.hT rfl rfl rfl ?_
    refine wq_loadBx 1 Tryz.hT rfl rfl rfl rfl rfl rfl rfl rfl ?_
    iterate 2 refine wq_pure Tryz.hT rfl rfl rfl ?_
    refine wq_upd 61 (.int .i64 (mk.length : Nat)) rfl (congrArg (Value.int .i64) hn1) ?_
    refine wq_indexAddr Tryz.hT rfl rfl rfl rfl rfl rfl rfl (by omega) (by omega) ?_
    refine wq_load rfl rfl rfl rfl (fun W hp => RowAt.load 0 Tryz.hT rfl ((fun W1 hp => row_val hp 2 rfl hval) W hp) rfl) ?_
    refine wq_loadBx 5 Tryz.hT rfl rfl rfl rfl rfl rfl rfl rfl ?_
    refine wq_wt ?_
    refine wt_step rfl rfl (by ((repeat (first | refine Weak.same ?_ | refine Weak.off rfl ?_)); exact trivial)) ?_
    refine RS.cons ?_ (RS.nil)
    (refine wl_buildRowZ Tryz.hZ Tryz.hT rfl rfl rfl rfl rfl rfl rfl rfl rfl rfl rfl ?_; intro)
    refine wl_nil ?_
    refine ne_wt ?_
    refine wt_step rfl rfl (by ((repeat (first | refine Weak.same ?_ | refine Weak.off rfl ?_)); exact trivial)) ?_
    refine RS.cons ?_ (RS.nil)
    refine wl_appendTo (V := U) (len := l.length) (xs := cellsOf l) 4 6 Tryz.vec27 (l ++ [sx]).length (cellsOf (l ++ [sx])) rfl rfl rfl rfl rfl rfl rfl rfl rfl rfl rfl hUok rfl rfl hl1.symm (by rw [hcl]; rfl) (by rw [hl1]; simp only [maxLen]; omega) (by rw [hl1]; omega) rfl ?_; intro gU cU jU hU'
    refine wl_nil ?_
    refine ne_wt ?_
    refine wt_step rfl rfl (by ((repeat (first | refine Weak.same ?_ | refine Weak.off rfl ?_)); exact trivial)) ?_
    refine RS.cons ?_ (RS.nil)
    refine wl_indexAddr Tryz.hT rfl rfl rfl rfl rfl rfl rfl (by omega) (by omega) ?_
    refine wl_nil ?_
    refine ne_wt ?_
    refine wt_step rfl rfl (by ((repeat (first | refine Weak.same ?_ | refine Weak.off rfl ?_)); exact trivial)) ?_
    refine RS.cons ?_ (RS.nil)
    refine wl_storeTo 2 (rowCells (mk ++ [((⟨some gU, cU, jU⟩ : Vec), l ++ [sx])]) ++ jv) Tryz.hT rfl rfl rfl rfl rfl rfl rfl rfl rfl rfl (by show 0 + mk.length * 1 + 1 ≤ (rowCells (mk ++ [(U, l)]) ++ jv).length; rw [List.length_append, rows_len]; omega) (by show splice (rowCells (mk ++ [(U, l)]) ++ jv) (0 + mk.length * 1) [.slice (some ⟨gU, 0, none⟩) (l ++ [sx]).length cU] = _; rw [hrc, rowCells_snoc, List.append_assoc, List.append_assoc, Nat.zero_add, Nat.mul_one, ← rows_len mk]; exact splice_mid (rowCells mk) [U.val l.length] jv [(⟨some gU, cU, jU⟩ : Vec).val (l ++ [sx]).length] rfl) ?_
    refine wl_nil ?_
    refine ne_wt ?_
    refine wt_doneF rfl (by kernel_rfl) ?_
    exact ne_late ⟨(gU, cU, jU), hU'⟩ ⟨rfl, rfl, rfl, congrArg (fun z => some (Value.int .i64 z)) (wrap_id (x := (i : Int) + 1) (by omega) (by omega)), rfl, trivial⟩ [0, 1, 2, 3, 4] (by decide) rfl
  rintro ⟨⟨gU, cU, jU⟩, hU'⟩
  change (⟨some gU, cU, jU⟩ : Vec).OK 7 (l ++ [sx]).length (cellsOf (l ++ [sx])) at hU'
  refine zN ?_
  refine zE ?_
  refine zB ?_
  iterate 3 refine wl_pure Tryz.hT rfl rfl rfl ?_
  refine wl_nil ?_
  have hnl2 : (mk ++ [((⟨some gU, cU, jU⟩ : Vec), l ++ [sx])]).length = (mk ++ [(U, l)]).length := by rw [List.length_append, List.length_append]; rfl
  refine ne_loop (i + 1, i + 1, mk, some (⟨some gU, cU, jU⟩, l ++ [sx]), ⟨some g, cv, jv⟩) ⟨⟨hilt, Nat.le_refl _, hno2⟩, ?_, ?_, fun h => (by cases h), ?_, ?_⟩ (by show s.length - (i + 1) < s.length - i; omega) ⟨rfl, rfl, rfl, rfl, congrArg (fun z => some (Value.int .i64 z)) (wrap_id (x := (i : Int) + 1) (by omega) (by omega)), trivial⟩ [] ?_
  · show MadeOK (mk ++ [((⟨some gU, cU, jU⟩ : Vec), l ++ [sx])]) (rgs (mk ++ [((⟨some gU, cU, jU⟩ : Vec), l ++ [sx])]))
    refine ⟨rfl, fun p hp => ?_⟩
    rcases List.mem_append.1 hp with hp | hp
    · exact hok.ok p (List.mem_append_left _ hp)
    · obtain rfl := List.mem_singleton.1 hp; exact hU'
  · show (⟨some g, cv, jv⟩ : Vec).OK 1 (mk ++ [((⟨some gU, cU, jU⟩ : Vec), l ++ [sx])]).length (rowCells (mk ++ [((⟨some gU, cU, jU⟩ : Vec), l ++ [sx])]))
    have hr1 := rows_len (mk ++ [((⟨some gU, cU, jU⟩ : Vec), l ++ [sx])])
    have hr2 := rows_len (mk ++ [(U, l)])
    have hcp := hrow.cap (by simp)
    refine ⟨by rw [hr1, Nat.mul_one], fun h => (by cases h), fun _ => ⟨by rw [hnl2]; exact hcp.1, hcp.2.1, by rw [hr1, hnl2, ← hr2]; exact hcp.2.2⟩⟩
  · show (mk ++ [((⟨some gU, cU, jU⟩ : Vec), l ++ [sx])]).length + tot (rgs (mk ++ [((⟨some gU, cU, jU⟩ : Vec), l ++ [sx])])) + (s.drop (i + 1)).length ≤ 65536
    rw [rgs_snoc, tot_snoc, hnl2, hl1, hbb]; omega
  · show parseF (rgs (mk ++ [((⟨some gU, cU, jU⟩ : Vec), l ++ [sx])])) (s.drop (i + 1)) = _
    rw [rgs_snoc, hbb]; exact hpar
  · show _ = [_, (⟨b4, 24, [.slice (some ⟨g, 0, none⟩) (mk ++ [((⟨some gU, cU, jU⟩ : Vec), l ++ [sx])]).length cv], true, none⟩ : Bx), _, _, _] ++ []
    rw [hnl2]; rfl
/-- Parse of a string that is too long. -/
theorem parse_long (W : World) (s : List UInt8) (hs0 : 65536 < s.length) :
    CallsR Tryz.prog 34 #[str s] W (fun _ : Unit => .tuple #[.agg #[.slice none 0 0], .int .i64 4]) (fun _ => True) (fun _ => []) := by
  refine calls_enter (args := [str s]) Tryz.func34 rfl rfl rfl ?_
  refine zA ?_
  refine zB ?_
  (refine wl_allocZ Tryz.hZ rfl rfl rfl rfl ?_; intro)
  refine wl_pure Tryz.hT rfl rfl rfl ?_
  refine wl_nil ?_
  rename_i b2
  have hsz : (⟨s.toArray⟩ : ByteArray).size = s.length := by show s.toArray.size = _; simp
  refine zE ?_
  iterate 2 refine zA ?_
  refine zB ?_
  iterate 3 refine wl_pure Tryz.hT rfl rfl rfl ?_
  refine wl_nil ?_
  refine zE ?_
  refine wc_cond rfl (fun h => ?_) (fun h => ?_)
  · refine zA ?_
    refine zB ?_
    refine wl_buildZ Tryz.hZ Tryz.hT rfl rfl rfl rfl rfl rfl rfl rfl ?_
    refine wl_storeBx 0 Tryz.hT rfl rfl rfl rfl rfl rfl rfl rfl rfl rfl rfl ?_
    refine wl_pure Tryz.hT rfl rfl rfl ?_
    refine wl_nil ?_
    refine zE ?_
    refine zO ?_
    refine zP ?_
    exact ne_ret2 Tryz.hT rfl (.cell 0 rfl rfl rfl rfl rfl) (.tmp rfl) () rfl trivial fun W1 _ => NewBx.nil _ _
  · have h' : decide (((⟨s.toArray⟩ : ByteArray).size : Int) > 65536) = false := h
    rw [hsz, decide_eq_false_iff_not] at h'
    omega
theorem parseP_gives (W : World) (s : List UInt8) (hv : VarsP W) (ht : TabP W) :
    CallsR Tryz.prog 34 #[str s] W (fun x : Vec × Made => .tuple #[.agg #[x.1.val (outT s).1.length], .int .i64 (outT s).2]) (fun x => MadeOK x.2 (outT s).1 ∧ x.1.OK 1 (outT s).1.length (rowCells x.2)) (fun x => [x.1.bx 27 (rowCells x.2), mkB x.2]) := by
  by_cases h : 65536 < s.length
  · have e : outT s = ([], 4) := by unfold outT; rw [if_pos h]
    rw [e]
    exact ⟨(parse_long W s h).out.mono fun e W' ⟨_, he, _, hb, _⟩ => ⟨(Vec.empty, []), he, ⟨⟨rfl, fun p hp => by cases hp⟩, Vec.OK.empty 1⟩, hb, own_none _ _⟩⟩
  · have e : outT s = outP s := by unfold outT; rw [if_neg h]
    rw [e]
    exact parse_gives W s (by omega) hv ht
end Go.Proofs.YtnpfkmbcejgnjaaGreatDoor
namespace Go.Proofs.YtnpfkmbcejgnjaaGreatDoor
open Go Go.RowKit Go.Am
set_option maxRecDepth 10000
-- BOXES 4
-- BOXIDX t1=0 t2=1 t8=5 t11=5 t14=8
theorem oldN_snoc (off j : Nat) : oldN off j ++ [((off + j : Nat) : Int)] = oldN off (j + 1) := by
  rw [← oldN_app off j 1]; rfl
theorem pairs_len (rs : List (List Sd)) : ∀ n, (pairs rs n).length = n
  | 0 => rfl
  | n + 1 => by
    show (pairs rs n ++ [pairR rs n]).length = _
    rw [List.length_append, pairs_len rs n]; rfl
theorem pairs_pos {rs : List (List Sd)} (hc : chk rs = 0) : ∀ n, n ≤ rs.length → ∀ x ∈ pairs rs n, 0 < x.1.length
  | 0, _, x, h => by cases h
  | n + 1, hn, x, h => by
    rcases List.mem_append.1 h with h | h
    · exact pairs_pos hc n (by omega) x h
    · obtain rfl := List.mem_singleton.1 h
      show 0 < (can1 (rg rs n)).length
      rw [can1_len]
      exact List.length_pos_iff.2 ((chk_ne hc).1 _ (List.mem_of_getElem? (rg_get (by omega))))
set_option maxHeartbeats 16000000 in
theorem canonical_gives (W : World) (p : Option Addr) (cap : Nat) (rs : List (List Sd)) (hn : rs.length < 1099511627776) (hR : RingsP W p rs) (hc : chk rs = 0) (h12 : tot rs ≤ 12) :
    CallsR Tryz.prog 38 #[planV p rs.length cap] W (fun x : Vec × Made × Nat => .tuple #[.agg #[x.1.val (canR rs).length], .slice (some ⟨x.2.2, 0, none⟩) (tot rs) (tot rs), .int .i64 0]) (fun x => MadeOK x.2.1 (canR rs) ∧ x.1.OK 1 (canR rs).length (rowCells x.2.1)) (fun x => [x.1.bx 27 (rowCells x.2.1), mkB x.2.1, ⟨x.2.2, 3, ci (numsOf rs), true, none⟩]) := by
  obtain ⟨hne, hT24, hne0⟩ := chk_ne hc
  have h3 := rings3 hc h12
  refine calls_enter (args := [planV p rs.length cap]) Tryz.func38 rfl rfl rfl ?_
  refine zA ?_
  refine zB ?_
  (refine wl_box rfl rfl rfl rfl ?_; intro)
  (refine wl_allocZ Tryz.hZ rfl rfl rfl rfl ?_; intro)
  iterate 2 refine wl_pure Tryz.hT rfl rfl rfl ?_
  refine wl_nil ?_
  rename_i b1 b2
  refine zE ?_
  iterate 2 refine zA ?_
  refine zB ?_
  refine wl_loadBx 0 Tryz.hT rfl rfl rfl rfl rfl rfl rfl rfl ?_
  refine wl_call1 rfl rfl rfl rfl rfl rfl (by kernel_rfl) (fun W hp => (check_gives W p cap rs (by omega) (by omega) (hR.hp hp)).cast (by rw [hc])) ?_
  refine wl_pure Tryz.hT rfl rfl rfl ?_
  refine wl_nil ?_
  refine zE ?_
  refine zS rfl ?_
  refine zI ?_
  refine zE ?_
  refine zA ?_
  refine zB ?_
  refine wl_pure Tryz.hT rfl rfl rfl ?_
  refine wl_nil ?_
  refine zE ?_
  refine zA ?_
  refine zB ?_
  refine wl_pure Tryz.hT rfl rfl rfl ?_
  refine wl_nil ?_
  refine zE ?_
  iterate 2 refine zA ?_
  refine zB ?_
  refine wl_pure Tryz.hT rfl rfl rfl ?_
  refine wl_loadBx 0 Tryz.hT rfl rfl rfl rfl rfl rfl rfl rfl ?_
  iterate 2 refine wl_pure Tryz.hT rfl rfl rfl ?_
  refine wl_nil ?_
  refine zE ?_
  refine zH ?_
  refine wc_newGone ?_
  iterate 2 refine wc_newGrp ?_
  refine wc_loop (X := Nat × Vec × MadeP) (fun x => [(2, .pointer (some ⟨b2, 0, none⟩)), (5, x.2.1.val x.1), (6, .int .i64 (tot (rs.take x.1) : Nat)), (22, slv p rs.length cap), (23, .int .i64 (rs.length : Nat)), (24, .int .i64 (x.1 : Nat))])
    (fun x => [⟨b1, 24, [slv p rs.length cap], true, none⟩, ⟨b2, 24, [slv none 0 0], true, none⟩, x.2.1.bx 119 (prCells x.2.2), mkB (x.2.2.map (·.1)), numB (x.2.2.map (·.2))])
    (fun x => x.1 ≤ rs.length ∧ PairsOK x.2.2 (pairs rs x.1) ∧ x.2.1.OK 2 x.1 (prCells x.2.2)) (fun x => rs.length - x.1) (0, Vec.empty, []) ⟨Nat.zero_le _, ⟨rfl, fun p hp => by cases hp⟩, Vec.OK.empty 2⟩ ⟨rfl, rfl, rfl, rfl, rfl, rfl, trivial⟩ [] rfl ?_
  rintro ⟨k, V, mp⟩ ⟨hk, hmp, hV⟩
  change k ≤ rs.length at hk
  change PairsOK mp (pairs rs k) at hmp
  change V.OK 2 k (prCells mp) at hV
  refine zA ?_
  refine zB ?_
  refine wl_pure Tryz.hT rfl rfl rfl ?_
  refine wl_nil ?_
  refine zE ?_
  refine zA ?_
  refine wc_cond rfl (fun h => ?_) (fun h => ?_)
  · have hk : k < rs.length := by have h' : decide ((k : Int) < (rs.length : Nat)) = true := h; rw [decide_eq_true_iff] at h'; omega
    clear h
    obtain ⟨b, off, rfl, hrow⟩ := hR.row hk
    obtain ⟨q, cap2, hq1, hq2⟩ := hrow k hk
    have t1 := tot_take_succ hk
    have t2 := tot_take_le rs (k + 1)
    have hd := ring_dist hc hk
    have hat := at_lt hc hk
    have hcl : (can1 (rg rs k)).length = (rg rs k).length := can1_len _
    have hol : (rot (oldN (tot (rs.take k)) (rg rs k).length) (atS (rg rs k))).length = (rg rs k).length := by rw [rot_len, oldN_len]
    obtain ⟨o, ho⟩ : ∃ o, tot (rs.take k) = o := ⟨_, rfl⟩
    obtain ⟨m, hm⟩ : ∃ m, (rg rs k).length = m := ⟨_, rfl⟩
    have t1' : ((tot (rs.take (k + 1)) : Nat) : Int) = ((o + m : Nat) : Int) := by rw [t1, ho, hm]
    refine zI ?_
    refine zE ?_
    refine zA ?_
    refine zH ?_
    refine zA ?_
    refine zB ?_
    refine wl_indexAddr Tryz.hT rfl rfl rfl rfl rfl rfl rfl (by omega) (by omega) ?_
    refine wl_load rfl rfl rfl rfl (fun W hp => RowAt.load 0 Tryz.hT rfl ((fun W hp => hq1.hp hp) W hp) rfl) ?_
    (refine wl_allocZ Tryz.hZ rfl rfl rfl rfl ?_; intro)
    refine wl_storeBx 5 Tryz.hT rfl rfl rfl rfl rfl rfl rfl rfl rfl rfl rfl ?_
    refine wl_nil ?_
    rename_i b8
    refine zE ?_
    refine zA ?_
    refine zB ?_
    refine wl_pure Tryz.hT rfl rfl rfl ?_
    refine wl_nil ?_
    refine zE ?_
    iterate 2 refine zA ?_
    refine zB ?_
    refine wl_loadBx 5 Tryz.hT rfl rfl rfl rfl rfl rfl rfl rfl ?_
    iterate 2 refine wl_pure Tryz.hT rfl rfl rfl ?_
    refine wl_nil ?_
    refine zE ?_
    refine zH ?_
    refine wc_newGone ?_
    refine wc_loop (X := Nat × Vec) (fun x => [(2, .pointer (some ⟨b2, 0, none⟩)), (5, V.val k), (6, .int .i64 ((o + x.1 : Nat) : Int)), (22, slv (some ⟨b, off, none⟩) rs.length cap), (23, .int .i64 (rs.length : Nat)), (24, .int .i64 (k : Nat)), (8, .pointer (some ⟨b8, 0, none⟩)), (9, x.2.val x.1), (29, .int .i64 (m : Nat)), (30, .int .i64 (x.1 : Nat))])
      (fun x => [⟨b1, 24, [slv (some ⟨b, off, none⟩) rs.length cap], true, none⟩, ⟨b2, 24, [slv none 0 0], true, none⟩, V.bx 119 (prCells mp), mkB (mp.map (·.1)), numB (mp.map (·.2)), ⟨b8, 27, [slv q (rg rs k).length cap2], true, none⟩, x.2.bx 3 (ci (oldN o x.1))])
      (fun x => x.1 ≤ m ∧ x.2.OK 1 x.1 (ci (oldN o x.1))) (fun x => m - x.1) (0, Vec.empty) ⟨Nat.zero_le _, Vec.OK.empty 1⟩ ⟨rfl, rfl, by rw [← ho]; rfl, rfl, rfl, rfl, rfl, rfl, by rw [← hm]; rfl, rfl, trivial⟩ [] rfl ?_
    rintro ⟨j, U⟩ ⟨hj, hU⟩
    change j ≤ m at hj
    change U.OK 1 j (ci (oldN o j)) at hU
    refine zA ?_
    refine zB ?_
    refine wl_pure Tryz.hT rfl rfl rfl ?_
    refine wl_nil ?_
    refine zE ?_
    refine zA ?_
    refine wc_cond rfl (fun h => ?_) (fun h => ?_)
    · have hj : j < m := by have h' : decide ((j : Int) < (m : Nat)) = true := h; rw [decide_eq_true_iff] at h'; omega
      clear h
      refine zI ?_
      refine zE ?_
      refine zA ?_
      refine zH ?_
      refine zA ?_
      refine zB ?_
      iterate 2 refine wl_pure Tryz.hT rfl rfl rfl ?_
      (refine wl_buildRowZ Tryz.hZ Tryz.hT rfl rfl rfl rfl rfl rfl rfl rfl rfl rfl rfl ?_; intro)
      refine wl_appendTo (V := U) (len := j) (xs := ci (oldN o j)) 6 7 Tryz.vec60 (j + 1) (ci (oldN o (j + 1))) rfl rfl rfl rfl rfl rfl rfl rfl rfl rfl rfl hU rfl rfl rfl (by show ci (oldN o j) ++ ci [((o + j : Nat) : Int)] = _; rw [← oldN_snoc]; exact (ci_append _ _).symm) (by simp only [maxLen]; omega) (by omega) rfl ?_
      intro g c1 j1 hV1
      refine wl_pure Tryz.hT rfl rfl rfl ?_
      refine wl_nil ?_
      refine zE ?_
      refine zB ?_
      iterate 3 refine wl_pure Tryz.hT rfl rfl rfl ?_
      refine wl_nil ?_
      refine zN ?_
      refine zE ?_
      refine zB ?_
      iterate 2 refine wl_pure Tryz.hT rfl rfl rfl ?_
      refine wl_nil ?_
      exact ne_loop (j + 1, ⟨some g, c1, j1⟩) ⟨hj, hV1⟩ (by show m - (j + 1) < m - j; omega) ⟨rfl, rfl, congrArg (fun z => some (Value.int .i64 z)) (wrap_id (x := ((o + j : Nat) : Int) + 1) (by omega) (by omega)), rfl, rfl, rfl, rfl, rfl, rfl, congrArg (fun z => some (Value.int .i64 z)) (wrap_id (x := (j : Int) + 1) (by omega) (by omega)), trivial⟩ [_] rfl
    have e : j = m := by have h' : decide ((j : Int) < (m : Nat)) = false := h; rw [decide_eq_false_iff_not] at h'; omega
    subst e
    clear h
    obtain ⟨pU, cU, jU⟩ := U
    cases pU with
    | none => have := hU.nil rfl; omega
    | some gU =>
    refine zJ ?_
    iterate 2 refine zK ?_
    refine zL ?_
    refine zE ?_
    refine zA ?_
    refine zB ?_
    refine wl_loadBx 5 Tryz.hT rfl rfl rfl rfl rfl rfl rfl rfl ?_
    refine wl_pure Tryz.hT rfl rfl rfl ?_
    refine wl_call1 rfl rfl rfl rfl rfl rfl (by kernel_rfl) (fun W hp => indexC_gives 88 (by kernel_rfl) [.pointer (some ⟨b8, 0, none⟩)] (isAt (rg rs k)) W q cap2 (rg rs k) (by omega) (hq2.hp hp) fun W' hb s => canon1_gives W' b8 q cap2 (rg rs k) (by omega) (by omega) ((RowAt.of_bx hp 5 rfl rfl).below (Nat.le_refl _) hb) ((hq2.hp hp).below (Nat.le_refl _) hb) s) ?_
    refine wl_upd 41 (.int .i64 (atS (rg rs k) : Nat)) rfl (congrArg (Value.int .i64) (isAt_idx hd (by omega))) ?_
    refine wl_pure Tryz.hT rfl rfl rfl ?_
    refine wl_nil ?_
    refine zE ?_
    refine zB ?_
    refine wl_pure Tryz.hT rfl rfl rfl ?_
    refine wl_loadBx 5 Tryz.hT rfl rfl rfl rfl rfl rfl rfl rfl ?_
    refine wl_pure Tryz.hT rfl rfl rfl ?_
    refine wl_call (X := Vec) rfl rfl rfl rfl rfl rfl (by kernel_rfl) (fun W hp => rotside_gives W q cap2 (rg rs k) (atS (rg rs k)) hat (by omega) (hq2.hp hp)) ?_
    rintro ⟨pS, cS, jS⟩ ⟨hS, hSp⟩
    cases pS with
    | none => exact absurd rfl hSp
    | some gS =>
    iterate 2 refine wl_pure Tryz.hT rfl rfl rfl ?_
    refine wl_call (X := Vec) rfl rfl rfl rfl rfl rfl (by kernel_rfl) (fun W hp => by
      have h := rotnum_gives W gU 0 cU (oldN o j) (atS (rg rs k)) (by rw [oldN_len]; omega) (by rw [oldN_len]; omega) (row_pt hp 6 (A := []) (C := jU) rfl rfl rfl)
      rw [oldN_len] at h
      exact h) ?_
    rintro ⟨pN, cN, jN⟩ ⟨hN, hNp⟩
    cases pN with
    | none => exact absurd rfl hNp
    | some gN =>
    have hx1 : (⟨some gS, cS, jS⟩ : Vec).OK 7 (can1 (rg rs k)).length (cellsOf (can1 (rg rs k))) := by rw [hcl]; exact hS
    have ho2 : (rot (oldN o j) (atS (rg rs k))).length = j := by rw [← ho, ← hm]; exact hol
    have hx2 : (⟨some gN, cN, jN⟩ : Vec).OK 1 (rot (oldN o j) (atS (rg rs k))).length (ci (rot (oldN o j) (atS (rg rs k)))) := by rw [ho2]; exact hN
    have hpv : prV (((⟨some gS, cS, jS⟩ : Vec), can1 (rg rs k)), ((⟨some gN, cN, jN⟩ : Vec), rot (oldN o j) (atS (rg rs k)))) = [slv (some ⟨gS, 0, none⟩) (rg rs k).length cS, slv (some ⟨gN, 0, none⟩) j cN] := by
      show [slv (some ⟨gS, 0, none⟩) (can1 (rg rs k)).length cS, slv (some ⟨gN, 0, none⟩) (rot (oldN o j) (atS (rg rs k))).length cN] = _
      rw [hcl, ho2]
    have hpair : pairR rs k = (can1 (rg rs k), rot (oldN o j) (atS (rg rs k))) := by rw [← ho, ← hm]; rfl
    refine wl_buildZ Tryz.hZ Tryz.hT rfl rfl rfl rfl rfl rfl rfl rfl ?_
    (refine wl_buildRowZ Tryz.hZ Tryz.hT rfl rfl rfl rfl rfl rfl rfl rfl rfl rfl rfl ?_; intro)
    refine wl_appendTo (V := V) (len := k) (xs := prCells mp) 2 9 Tryz.vec112 (k + 1) (prCells (mp ++ [(((⟨some gS, cS, jS⟩ : Vec), can1 (rg rs k)), ((⟨some gN, cN, jN⟩ : Vec), rot (oldN o j) (atS (rg rs k))))])) rfl rfl rfl rfl rfl rfl rfl rfl rfl rfl rfl hV rfl rfl rfl (by rw [prCells_snoc, hpv]; rfl) (by simp only [maxLen]; omega) (by omega) rfl ?_
    intro g1 c1 j1 hV1
    refine wl_pure Tryz.hT rfl rfl rfl ?_
    refine wl_nil ?_
    refine zN ?_
    refine zE ?_
    refine zB ?_
    iterate 2 refine wl_pure Tryz.hT rfl rfl rfl ?_
    refine wl_nil ?_
    refine ne_join 3 7 (mkB ((mp ++ [(((⟨some gS, cS, jS⟩ : Vec), can1 (rg rs k)), ((⟨some gN, cN, jN⟩ : Vec), rot (oldN o j) (atS (rg rs k))))]).map (·.1))) rfl rfl rfl (by rw [List.map_append]; exact mkB_snoc _ _ _) ?_
    refine ne_join 4 8 (numB ((mp ++ [(((⟨some gS, cS, jS⟩ : Vec), can1 (rg rs k)), ((⟨some gN, cN, jN⟩ : Vec), rot (oldN o j) (atS (rg rs k))))]).map (·.2))) rfl rfl rfl (by rw [List.map_append]; exact numB_snoc _ _ _) ?_
    exact ne_loop (k + 1, ⟨some g1, c1, j1⟩, mp ++ [(((⟨some gS, cS, jS⟩ : Vec), can1 (rg rs k)), ((⟨some gN, cN, jN⟩ : Vec), rot (oldN o j) (atS (rg rs k))))])
      ⟨hk, by show PairsOK _ (pairs rs k ++ [pairR rs k]); rw [hpair]; exact hmp.snoc hx1 hx2 (by simp) (by simp), hV1⟩ (by show rs.length - (k + 1) < rs.length - k; omega)
      ⟨rfl, rfl, congrArg (fun z : Int => some (Value.int .i64 z)) t1'.symm, rfl, rfl, congrArg (fun z => some (Value.int .i64 z)) (wrap_id (x := (k : Int) + 1) (by omega) (by omega)), trivial⟩ [_, _, gone, gone, _] rfl
  have e : k = rs.length := by have h' : decide ((k : Int) < (rs.length : Nat)) = false := h; rw [decide_eq_false_iff_not] at h'; omega
  subst e
  clear h
  obtain ⟨pV, cV, jV⟩ := V
  cases pV with
  | none => have := hV.nil rfl; omega
  | some g =>
  have hcV : rs.length ≤ cV := (hV.cap (by simp)).1
  have hml : mp.length = rs.length := by rw [hmp.len, pairs_len]
  have hmq0 := hmp.sort
  obtain ⟨mq, emq⟩ : ∃ mq, sort2M mp = mq := ⟨_, rfl⟩
  have hpm : mq.Perm mp := by rw [← emq]; exact sort2M_perm mp
  rw [emq] at hmq0
  have hmq : PairsOK mq (canP rs) := hmq0
  have hql : mq.length = rs.length := by rw [hpm.length_eq, hml]
  have hne2 : ∀ x ∈ mp, 0 < x.1.2.length := fun x hx => by
    have h1 : (x.1.2, x.2.2) ∈ pairs rs rs.length := by rw [← hmp.eq]; exact List.mem_map.2 ⟨x, hx, rfl⟩
    exact pairs_pos hc _ (Nat.le_refl _) _ h1
  refine zJ ?_
  iterate 2 refine zK ?_
  refine zL ?_
  refine zE ?_
  refine zA ?_
  refine zB ?_
  refine wl_pure Tryz.hT rfl rfl rfl ?_
  refine wl_slice_l 1 Tryz.hT rfl rfl rfl rfl rfl rfl rfl rfl (by show 1 ≤ rs.length; omega) hcV ?_
  refine wl_sortP 2 3 (m := rs.length) (mp := mp) rfl rfl rfl rfl rfl rfl rfl rfl (by decide) h3 (fun h => (if_neg (show ¬ cV = 1 by omega)).trans rfl) hml (fun x hx => ⟨(hmp.ok x hx).2.2.1, (hmp.ok x hx).2.2.2, hne2 x hx⟩) ?_
  rw [emq]
  refine wl_nil ?_
  refine zE ?_
  refine wc_regroup 3 (mkB (mq.map (·.1))) rfl (mkB_perm (hpm.map _)) ?_
  refine wc_regroup 4 (numB (mq.map (·.2))) rfl (numB_perm (hpm.map _)) ?_
  refine zA ?_
  refine zB ?_
  (refine wl_allocZ Tryz.hZ rfl rfl rfl rfl ?_; intro)
  refine wl_nil ?_
  rename_i b11
  refine zE ?_
  refine zA ?_
  refine zB ?_
  refine wl_pure Tryz.hT rfl rfl rfl ?_
  refine wl_makeSlice Tryz.vec60 (tot rs) rfl rfl rfl rfl rfl (by rw [List.take_length]) (by rw [List.take_length]) (by simp only [maxLen]; omega) (by omega) ?_
  intro bN
  rw [repL_ci]
  refine wl_pure Tryz.hT rfl rfl rfl ?_
  refine wl_nil ?_
  refine zE ?_
  refine zA ?_
  refine zB ?_
  refine wl_pure Tryz.hT rfl rfl rfl ?_
  refine wl_nil ?_
  refine zE ?_
  iterate 2 refine zA ?_
  refine zB ?_
  iterate 3 refine wl_pure Tryz.hT rfl rfl rfl ?_
  refine wl_nil ?_
  refine zE ?_
  refine zH ?_
  refine wc_newGone ?_
  refine wc_loop (X := Nat × Vec) (fun x => [(2, .pointer (some ⟨b2, 0, none⟩)), (6, .int .i64 (((mq.take x.1).flatMap (·.2.2)).length : Nat)), (11, .pointer (some ⟨b11, 0, none⟩)), (12, .slice (some ⟨bN, 0, none⟩) (tot rs) (tot rs)), (58, .slice (some ⟨g, 0, none⟩) rs.length cV), (59, .int .i64 (rs.length : Nat)), (60, .int .i64 (x.1 : Nat))])
    (fun x => [⟨b1, 24, [slv p rs.length cap], true, none⟩, ⟨b2, 24, [slv none 0 0], true, none⟩, ⟨g, 119, prCells mq ++ jV, true, none⟩, mkB (mq.map (·.1)), numB (mq.map (·.2)), ⟨b11, 24, [x.2.val x.1], true, none⟩, ⟨bN, 3, ci (fill (List.replicate (tot rs) 0) 0 ((mq.take x.1).flatMap (·.2.2))), true, none⟩, x.2.bx 27 (rowCells ((mq.take x.1).map (·.1)))])
    (fun x => x.1 ≤ rs.length ∧ x.2.OK 1 x.1 (rowCells ((mq.take x.1).map (·.1)))) (fun x => rs.length - x.1) (0, Vec.empty) ⟨Nat.zero_le _, Vec.OK.empty 1⟩ ⟨rfl, rfl, rfl, rfl, rfl, rfl, rfl, trivial⟩ [] rfl ?_
  rintro ⟨k, V2⟩ ⟨hk, hV2⟩
  change k ≤ rs.length at hk
  change V2.OK 1 k (rowCells ((mq.take k).map (·.1))) at hV2
  have hold : olds rs = mq.flatMap (·.2.2) := by
    unfold olds
    rw [← hmq.eq]
    exact List.flatMap_map ..
  refine zA ?_
  refine zB ?_
  refine wl_pure Tryz.hT rfl rfl rfl ?_
  refine wl_nil ?_
  refine zE ?_
  refine zA ?_
  refine wc_cond rfl (fun h => ?_) (fun h => ?_)
  · have hk : k < rs.length := by have h' : decide ((k : Int) < (rs.length : Nat)) = true := h; rw [decide_eq_true_iff] at h'; omega
    clear h
    obtain ⟨x, hx⟩ : ∃ x, mq[k]? = some x := ⟨_, List.getElem?_eq_getElem (by omega)⟩
    have hxm := List.mem_of_getElem? hx
    have htk : mq.take (k + 1) = mq.take k ++ [x] := by rw [List.take_add_one, hx]; rfl
    have hsp := prCells_split hx
    obtain ⟨hx1, hx2, hx3, hx4⟩ := hmq.ok x hxm
    have hxo : ∀ o ∈ x.2.2, 0 ≤ o ∧ o < (tot rs : Nat) := fun o ho => olds_mem rs (by rw [hold]; exact List.mem_flatMap.2 ⟨x, hxm, ho⟩)
    obtain ⟨⟨⟨pS, cS, jS⟩, ls⟩, ⟨⟨pN, cN, jN⟩, on⟩⟩ := x
    cases pS with
    | none => exact absurd rfl hx3
    | some gS =>
    cases pN with
    | none => exact absurd rfl hx4
    | some gN =>
    have hlo : ((mq.take k).flatMap (·.2.2)).length + on.length ≤ tot rs := by
      have h1 : (mq.take (k + 1)).flatMap (·.2.2) = (mq.take k).flatMap (·.2.2) ++ on := by rw [htk, List.flatMap_append]; simp
      have h2 : mq.flatMap (·.2.2) = (mq.take (k + 1)).flatMap (·.2.2) ++ (mq.drop (k + 1)).flatMap (·.2.2) := by rw [← List.flatMap_append, List.take_append_drop]
      have h4 := olds_len rs
      rw [hold, h2, h1, List.length_append, List.length_append] at h4
      omega
    refine zI ?_
    refine zE ?_
    refine zA ?_
    refine zH ?_
    refine zA ?_
    refine zB ?_
    refine wl_indexAddr Tryz.hT rfl rfl rfl rfl rfl rfl rfl (by omega) (by omega) ?_
    refine wl_load rfl rfl rfl rfl (fun W hp => RowAt.load 0 Tryz.hT rfl ((fun W1 hp => show RowAt W1 g (0 + k * 2) [slv (some ⟨gS, 0, none⟩) ls.length cS, slv (some ⟨gN, 0, none⟩) on.length cN] from row_pt hp 2 (A := prCells (mq.take k)) (C := prCells (mq.drop (k + 1)) ++ jV) rfl (by rw [hsp, List.append_assoc, List.append_assoc]; rfl) (by rw [prCells_len, List.length_take]; omega)) W hp) rfl) ?_
    (refine wl_allocZ Tryz.hZ rfl rfl rfl rfl ?_; intro)
    refine wl_storeBx 8 Tryz.hT rfl rfl rfl rfl rfl rfl rfl rfl rfl rfl rfl ?_
    refine wl_nil ?_
    rename_i b14
    refine zE ?_
    refine zA ?_
    refine zB ?_
    refine wl_pure Tryz.hT rfl rfl rfl ?_
    refine wl_loadBx 5 Tryz.hT rfl rfl rfl rfl rfl rfl rfl rfl ?_
    refine wl_pure Tryz.hT rfl rfl rfl ?_
    refine wl_loadBx 8 Tryz.hT rfl rfl rfl rfl rfl rfl rfl rfl ?_
    (refine wl_buildRowZ Tryz.hZ Tryz.hT rfl rfl rfl rfl rfl rfl rfl rfl rfl rfl rfl ?_; intro)
    refine wl_appendTo (V := V2) (len := k) (xs := rowCells ((mq.take k).map (·.1))) 7 9 Tryz.vec22 (k + 1) (rowCells ((mq.take (k + 1)).map (·.1))) rfl rfl rfl rfl rfl rfl rfl rfl rfl rfl rfl hV2 rfl rfl rfl (by rw [htk, List.map_append]; show rowCells _ ++ [slv (some ⟨gS, 0, none⟩) ls.length cS] = rowCells (_ ++ [((⟨some gS, cS, jS⟩ : Vec), ls)]); exact (rowCells_snoc (List.map (·.1) (mq.take k)) ⟨some gS, cS, jS⟩ ls).symm) (by simp only [maxLen]; omega) (by omega) rfl ?_
    intro g2 c2 j2 hV3
    refine wl_pure Tryz.hT rfl rfl rfl ?_
    refine wl_storeBx 5 Tryz.hT rfl rfl rfl rfl rfl rfl rfl rfl rfl rfl rfl ?_
    refine wl_nil ?_
    refine zE ?_
    refine zA ?_
    refine zB ?_
    refine wl_pure Tryz.hT rfl rfl rfl ?_
    refine wl_loadBx 8 Tryz.hT rfl rfl rfl rfl rfl rfl rfl rfl ?_
    iterate 2 refine wl_pure Tryz.hT rfl rfl rfl ?_
    refine wl_nil ?_
    refine zE ?_
    refine zH ?_
    obtain ⟨L, eL⟩ : ∃ L, (mq.take k).flatMap (·.2.2) = L := ⟨_, rfl⟩
    rw [eL] at hlo
    refine wc_loop (X := Nat) (fun j => [(2, .pointer (some ⟨b2, 0, none⟩)), (6, .int .i64 ((L.length + j : Nat) : Int)), (11, .pointer (some ⟨b11, 0, none⟩)), (12, .slice (some ⟨bN, 0, none⟩) (tot rs) (tot rs)), (58, .slice (some ⟨g, 0, none⟩) rs.length cV), (59, .int .i64 (rs.length : Nat)), (60, .int .i64 (k : Nat)), (72, .slice (some ⟨gN, 0, none⟩) on.length cN), (73, .int .i64 (on.length : Nat)), (74, .int .i64 (j : Nat))])
      (fun j => [⟨b1, 24, [slv p rs.length cap], true, none⟩, ⟨b2, 24, [slv none 0 0], true, none⟩, ⟨g, 119, prCells mq ++ jV, true, none⟩, mkB (mq.map (·.1)), numB (mq.map (·.2)), ⟨b11, 24, [slv (some ⟨g2, 0, none⟩) (k + 1) c2], true, none⟩, ⟨bN, 3, ci (fill (List.replicate (tot rs) 0) 0 (L ++ on.take j)), true, none⟩, ⟨g2, 27, rowCells ((mq.take (k + 1)).map (·.1)) ++ j2, true, none⟩])
      (fun j => j ≤ on.length) (fun j => on.length - j) 0 (Nat.zero_le _) ⟨rfl, congrArg (fun l : List Int => some (Value.int .i64 (l.length : Nat))) eL, rfl, rfl, rfl, rfl, rfl, rfl, rfl, rfl, trivial⟩ [_, _] (by rw [← eL]; simp only [List.take_zero, List.append_nil]; rfl) ?_
    intro j hj
    refine zA ?_
    refine zB ?_
    refine wl_pure Tryz.hT rfl rfl rfl ?_
    refine wl_nil ?_
    refine zE ?_
    refine zA ?_
    refine wc_cond rfl (fun h => ?_) (fun h => ?_)
    · have hj : j < on.length := by have h' : decide ((j : Int) < (on.length : Nat)) = true := h; rw [decide_eq_true_iff] at h'; omega
      clear h
      obtain ⟨z, hz⟩ : ∃ z, on.getD j 0 = z := ⟨_, rfl⟩
      have hzj : on[j]? = some z := by rw [← hz, List.getD_eq_getElem?_getD, List.getElem?_eq_getElem hj]; rfl
      obtain ⟨hz0, hz1⟩ := hxo z (List.mem_of_getElem? hzj)
      have htj : on.take (j + 1) = on.take j ++ [z] := by rw [List.take_add_one, hzj]; rfl
      have hset : ci ((fill (List.replicate (tot rs) 0) 0 (L ++ on.take j)).set z.toNat ((L.length + j : Nat) : Int)) = ci (fill (List.replicate (tot rs) 0) 0 (L ++ on.take (j + 1))) := by
        rw [htj, ← List.append_assoc, fill_snoc, List.length_append, List.length_take, Nat.min_eq_left (Nat.le_of_lt hj), Nat.zero_add]
      have hfl : (fill (List.replicate (tot rs) 0) 0 (L ++ on.take j)).length = tot rs := by rw [fill_len, List.length_replicate]
      refine zI ?_
      refine zE ?_
      refine zA ?_
      refine zH ?_
      refine zA ?_
      refine zB ?_
      refine wl_indexAddr Tryz.hT rfl rfl rfl rfl rfl rfl rfl (by omega) (by omega) ?_
      refine wl_load rfl rfl rfl rfl (fun W hp => RowAt.load 0 Tryz.hT rfl ((fun W1 hp => num_grp hp 4 rfl (x := (⟨some gN, cN, jN⟩, on)) (List.mem_map.2 ⟨_, hxm, rfl⟩) rfl hj) W hp) rfl) ?_
      refine wl_upd 77 (.int .i64 z) rfl (congrArg (Value.int .i64) hz) ?_
      refine wl_pure Tryz.hT rfl rfl rfl ?_
      refine wl_nil ?_
      refine zE ?_
      refine zA ?_
      refine zB ?_
      iterate 3 refine wl_pure Tryz.hT rfl rfl rfl ?_
      refine wl_indexAddr Tryz.hT rfl rfl rfl rfl rfl rfl rfl (by omega) (by omega) ?_
      refine wl_storeTo 6 (ci (fill (List.replicate (tot rs) 0) 0 (L ++ on.take (j + 1)))) Tryz.hT rfl rfl rfl rfl rfl rfl rfl rfl rfl rfl (by show 0 + z.toNat * 1 + 1 ≤ (ci (fill (List.replicate (tot rs) 0) 0 (L ++ on.take j))).length; rw [List.length_map, hfl]; omega) (by
        have h1 := set_num ((L.length + j : Nat) : Int) (junk := []) (L := fill (List.replicate (tot rs) 0) 0 (L ++ on.take j)) (j := z.toNat) (by rw [hfl]; omega)
        rw [List.append_nil, List.append_nil, hset] at h1
        show splice _ (0 + z.toNat * 1) _ = _
        rw [Nat.zero_add]
        exact h1) ?_
      refine wl_nil ?_
      refine zE ?_
      refine zB ?_
      iterate 3 refine wl_pure Tryz.hT rfl rfl rfl ?_
      refine wl_nil ?_
      refine zN ?_
      refine zE ?_
      refine zB ?_
      iterate 2 refine wl_pure Tryz.hT rfl rfl rfl ?_
      refine wl_nil ?_
      exact ne_loop (j + 1) hj (by omega) ⟨rfl, congrArg (fun z => some (Value.int .i64 z)) (wrap_id (x := ((L.length + j : Nat) : Int) + 1) (by omega) (by omega)), rfl, rfl, rfl, rfl, rfl, rfl, rfl, congrArg (fun z => some (Value.int .i64 z)) (wrap_id (x := (j : Int) + 1) (by omega) (by omega)), trivial⟩ [] rfl
    have e : j = on.length := by have h' : decide ((j : Int) < (on.length : Nat)) = false := h; rw [decide_eq_false_iff_not] at h'; omega
    subst e
    clear h
    have hL2 : (mq.take (k + 1)).flatMap (·.2.2) = L ++ on.take on.length := by rw [htk, List.flatMap_append, eL, List.take_length]; simp
    refine zJ ?_
    iterate 2 refine zK ?_
    refine zL ?_
    refine zN ?_
    refine zE ?_
    refine zB ?_
    iterate 2 refine wl_pure Tryz.hT rfl rfl rfl ?_
    refine wl_nil ?_
    exact ne_loop (k + 1, ⟨some g2, c2, j2⟩) ⟨hk, hV3⟩ (by show rs.length - (k + 1) < rs.length - k; omega) ⟨rfl, congrArg (fun n : Nat => some (Value.int .i64 (n : Int))) (by rw [hL2, List.length_append, List.take_length]), rfl, rfl, rfl, rfl, congrArg (fun z => some (Value.int .i64 z)) (wrap_id (x := (k : Int) + 1) (by omega) (by omega)), trivial⟩ []
      (congrArg (fun l => [(⟨b1, 24, [slv p rs.length cap], true, none⟩ : Bx), ⟨b2, 24, [slv none 0 0], true, none⟩, ⟨g, 119, prCells mq ++ jV, true, none⟩, mkB (mq.map (·.1)), numB (mq.map (·.2)), ⟨b11, 24, [slv (some ⟨g2, 0, none⟩) (k + 1) c2], true, none⟩, ⟨bN, 3, ci (fill (List.replicate (tot rs) 0) 0 l), true, none⟩, ⟨g2, 27, rowCells ((mq.take (k + 1)).map (·.1)) ++ j2, true, none⟩]) hL2.symm)
  have e : k = rs.length := by have h' : decide ((k : Int) < (rs.length : Nat)) = false := h; rw [decide_eq_false_iff_not] at h'; omega
  subst e
  clear h
  have hcl : (canR rs).length = rs.length := by unfold canR; rw [List.length_map, ← hmq.len, hql]
  have htk : mq.take rs.length = mq := List.take_of_length_le (by omega)
  rw [htk] at hV2
  obtain ⟨pV2, cV2, jV2⟩ := V2
  cases pV2 with
  | none => have := hV2.nil rfl; omega
  | some g2 =>
  have hns : fill (List.replicate (tot rs) 0) 0 ((mq.take rs.length).flatMap (·.2.2)) = numsOf rs := by rw [htk, ← hold]; rfl
  refine zJ ?_
  iterate 2 refine zK ?_
  refine zL ?_
  refine zE ?_
  refine zA ?_
  refine zB ?_
  refine wl_loadBx 5 Tryz.hT rfl rfl rfl rfl rfl rfl rfl rfl ?_
  refine wl_pure Tryz.hT rfl rfl rfl ?_
  refine wl_storeBx 1 Tryz.hT rfl rfl rfl rfl rfl rfl rfl rfl rfl rfl rfl ?_
  iterate 2 refine wl_pure Tryz.hT rfl rfl rfl ?_
  refine wl_nil ?_
  refine zE ?_
  refine zO ?_
  refine ne_ret3 Tryz.hT rfl (.cell 1 rfl rfl rfl rfl rfl) (.tmp rfl) (.tmp rfl) (⟨some g2, cV2, jV2⟩, mq.map (·.1), bN) (by show Value.tuple #[.agg #[.slice (some ⟨g2, 0, none⟩) rs.length cV2], _, _] = .tuple #[.agg #[.slice (some ⟨g2, 0, none⟩) (canR rs).length cV2], _, _]; rw [hcl]) ⟨⟨?_, fun x hx => ?_⟩, by show Vec.OK _ 1 (canR rs).length _; rw [hcl]; exact hV2⟩ fun W hp => ?_
  · unfold canR
    rw [← hmq.eq, List.map_map, List.map_map]; rfl
  · obtain ⟨y, hy, rfl⟩ := List.mem_map.1 hx
    exact (hmq.ok y hy).1
  · have h1 := (hp.pick (l := [(⟨some g2, cV2, jV2⟩ : Vec).bx 27 (rowCells ((mq.take rs.length).map (·.1))), mkB (mq.map (·.1)), ⟨bN, 3, ci (fill (List.replicate (tot rs) 0) 0 ((mq.take rs.length).flatMap (·.2.2))), true, none⟩]) [7, 3, 6] (by decide) rfl).own
    rw [hns, htk] at h1
    exact h1
end Go.Proofs.YtnpfkmbcejgnjaaGreatDoor
