/-
  One ring of a plan that was made: its block changed.
-/
import Derived.Test.YtnpfkmbcejgnjaaGreatDoorInsert
import Derived.Test.YtnpfkmbcejgnjaaGreatDoorRefMath
namespace Go.Proofs.YtnpfkmbcejgnjaaGreatDoor
open Go Go.RowKit Go.Am
set_option maxRecDepth 10000
abbrev ringO (l : List Sd) (junk : List Value) : Obj := .cells (cellsOf l ++ junk).toArray 42 (0, 0)
/-- The place of one ring's block among those of a plan that was made. -/
structure MadeAt (mk : Made) (rs : List (List Sd)) (r g cap : Nat) (junk : List Value) (L1 L2 : List (Nat × Obj)) : Prop where
  val : (rowCells mk)[r]? = some (slv (some ⟨g, 0, none⟩) (rg rs r).length cap)
  ok : (⟨some g, cap, junk⟩ : Vec).OK 7 (rg rs r).length (cellsOf (rg rs r))
  blk : mkB mk = grpB (L1 ++ (g, ringO (rg rs r) junk) :: L2)
  set : ∀ g' cap' junk' l', (⟨some g', cap', junk'⟩ : Vec).OK 7 l'.length (cellsOf l') → ∃ mk' : Made, MadeOK mk' (rs.set r l') ∧ mkB mk' = grpB (L1 ++ (g', ringO l' junk') :: L2) ∧ rowCells mk' = (rowCells mk).set r (slv (some ⟨g', 0, none⟩) l'.length cap')
theorem made_at {mk : Made} {rs : List (List Sd)} (h : MadeOK mk rs) (hne : ∀ l ∈ rs, l ≠ []) {r : Nat} (hr : r < rs.length) : ∃ g cap junk L1 L2, MadeAt mk rs r g cap junk L1 L2 := by
  have hlm : mk.length = rs.length := by rw [← h.eq, List.length_map]
  have hm : r < mk.length := by omega
  obtain ⟨A, B, x, e, hA⟩ : ∃ A B x, mk = A ++ x :: B ∧ A.length = r := ⟨mk.take r, mk.drop (r + 1), mk[r], by rw [← List.drop_eq_getElem_cons hm, List.take_append_drop], by rw [List.length_take]; omega⟩
  obtain ⟨⟨p, cap, junk⟩, l⟩ := x
  subst e
  have hrs : rs = A.map (·.2) ++ l :: B.map (·.2) := by rw [← h.eq, List.map_append, List.map_cons]
  have hl : rg rs r = l := by
    rw [hrs, rg, List.getD_eq_getElem?_getD, List.getElem?_append_right (by rw [List.length_map]; omega), List.length_map, hA, Nat.sub_self]; rfl
  have hok := h.ok (⟨p, cap, junk⟩, l) (List.mem_append_right _ (List.mem_cons_self ..))
  have hlne : l ≠ [] := hne l (by rw [hrs]; exact List.mem_append_right _ (List.mem_cons_self ..))
  cases p with
  | none => exact absurd (List.length_eq_zero_iff.1 (hok.nil rfl)) hlne
  | some g =>
  refine ⟨g, cap, junk, B.reverse.flatMap fun p => (p.1.bx 42 (cellsOf p.2)).blk, A.reverse.flatMap fun p => (p.1.bx 42 (cellsOf p.2)).blk, ?_, ?_, ?_, ?_⟩
  · rw [hl, rowCells, List.map_append, List.map_cons, List.getElem?_append_right (by rw [List.length_map]; omega), List.length_map, hA, Nat.sub_self]; rfl
  · rw [hl]; exact hok
  · rw [hl, mkB, List.reverse_append, List.reverse_cons, List.flatMap_append, List.flatMap_append]
    simp only [List.append_assoc]
    rfl
  · intro g' cap' junk' l' hok'
    refine ⟨A ++ (⟨some g', cap', junk'⟩, l') :: B, ⟨?_, fun q hq => ?_⟩, ?_, ?_⟩
    · rw [hrs, List.map_append, List.map_cons, List.set_append_right _ _ (by rw [List.length_map]; omega), List.length_map, hA, Nat.sub_self]; rfl
    · rcases List.mem_append.1 hq with hq | hq
      · exact h.ok q (List.mem_append_left _ hq)
      · rcases List.mem_cons.1 hq with rfl | hq
        · exact hok'
        · exact h.ok q (List.mem_append_right _ (List.mem_cons_of_mem _ hq))
    · rw [mkB, List.reverse_append, List.reverse_cons, List.flatMap_append, List.flatMap_append]
      simp only [List.append_assoc]
      rfl
    · rw [rowCells, rowCells, List.map_append, List.map_append, List.map_cons, List.map_cons, List.set_append_right _ _ (by rw [List.length_map]; omega), List.length_map, hA, Nat.sub_self]; rfl
/-- .. with the same block and as many sides. -/
theorem MadeAt.same {mk : Made} {rs : List (List Sd)} {r g cap : Nat} {junk : List Value} {L1 L2 : List (Nat × Obj)} (h : MadeAt mk rs r g cap junk L1 L2) {l' : List Sd} (hl : l'.length = (rg rs r).length) :
    ∃ mk' : Made, MadeOK mk' (rs.set r l') ∧ mkB mk' = grpB (L1 ++ (g, ringO l' junk) :: L2) ∧ rowCells mk' = rowCells mk := by
  have hok : (⟨some g, cap, junk⟩ : Vec).OK 7 l'.length (cellsOf l') := by
    obtain ⟨h1, h2, h3⟩ := h.ok
    refine ⟨cellsOf_length _, (fun h => by cases h), fun h => ?_⟩
    obtain ⟨a, b, c⟩ := h3 h
    refine ⟨by rw [hl]; exact a, b, ?_⟩
    rw [cellsOf_length] at c ⊢
    rw [hl]; exact c
  obtain ⟨mk', a, b, c⟩ := h.set g cap junk l' hok
  refine ⟨mk', a, b, ?_⟩
  rw [c, hl]
  have hlt := (List.getElem?_eq_some_iff.1 h.val).1
  refine List.ext_getElem? fun i => ?_
  by_cases e : i = r
  · subst e; rw [List.getElem?_set_self hlt, h.val]
  · rw [List.getElem?_set_ne (fun h => e h.symm)]
/-- What lies in the row of rings. -/
theorem row_val {W0 W : World} {bxs : List Bx} (hp : Hp W0 bxs W) (k : Nat) {g ty : Nat} {mk : Made} {junk : List Value} (hk : nth bxs k = some ⟨g, ty, rowCells mk ++ junk, true, none⟩) {r : Nat} {v : Value} (hv : (rowCells mk)[r]? = some v) : RowAt W g (0 + r * 1) [v] := by
  have h := RowAt.of_bx hp k hk rfl
  refine ⟨h.lt, fun m u hu => ?_⟩
  have hm : m = 0 ∧ u = v := by
    cases m with
    | zero => simp at hu; exact ⟨rfl, hu.symm⟩
    | succ m => simp at hu
  obtain ⟨rfl, rfl⟩ := hm
  have := h.get r u (by show (rowCells mk ++ junk)[r]? = _; rw [List.getElem?_append_left (List.getElem?_eq_some_iff.1 hv).1]; exact hv)
  rw [Nat.mul_one, Nat.zero_add, Nat.add_zero]
  rw [Nat.zero_add] at this
  exact this
end Go.Proofs.YtnpfkmbcejgnjaaGreatDoor
