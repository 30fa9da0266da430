/-
  Rings in memory.
-/
import Derived.Test.YtnpfkmbcejgnjaaGreatDoorArea
import Derived.Test.YtnpfkmbcejgnjaaGreatDoorAn
namespace Go.Proofs.YtnpfkmbcejgnjaaGreatDoor
-- OLD
open Go Go.RowKit Go.Am
set_option maxRecDepth 10000
-- BOXES 8
-- EQB 4
/-- Rings in memory. -/
structure RingsAt (W : World) (b off : Nat) (rs : List (List Sd)) : Prop where
  get : ∀ (i : Nat) (l : List Sd), rs[i]? = some l → ∃ p cap, RowAt W b (off + i * 1) [slv p l.length cap] ∧ RingP W p l
def RingsP (W : World) (p : Option Addr) (rs : List (List Sd)) : Prop := rs = [] ∨ ∃ b off, p = some ⟨b, off, none⟩ ∧ RingsAt W b off rs
def rg (rs : List (List Sd)) (i : Nat) : List Sd := rs.getD i []
theorem rg_get {rs : List (List Sd)} {i : Nat} (h : i < rs.length) : rs[i]? = some (rg rs i) := by simp [rg, h]
theorem RingsP.row {W : World} {p : Option Addr} {rs : List (List Sd)} (h : RingsP W p rs) {i : Nat} (hi : i < rs.length) :
    ∃ b off, p = some ⟨b, off, none⟩ ∧ ∀ k, k < rs.length → ∃ q cap, RowAt W b (off + k * 1) [slv q (rg rs k).length cap] ∧ RingP W q (rg rs k) := by
  rcases h with rfl | ⟨b, off, h1, h2⟩
  · simp at hi
  · exact ⟨b, off, h1, fun k hk => h2.get k _ (rg_get hk)⟩
theorem RingsP.below {W W' : World} {p : Option Addr} {rs : List (List Sd)} {n : Nat} (h : RingsP W p rs) (hn : W.heap.size ≤ n) (hb : Below n W W') : RingsP W' p rs := by
  rcases h with h | ⟨b, off, h1, h2⟩
  · exact .inl h
  · refine .inr ⟨b, off, h1, ⟨fun i l hl => ?_⟩⟩
    obtain ⟨q, cap, h3, h4⟩ := h2.get i l hl
    exact ⟨q, cap, h3.below hn hb, h4.below hn hb⟩
end Go.Proofs.YtnpfkmbcejgnjaaGreatDoor
