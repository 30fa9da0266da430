/-
  strings.Builder at this program: what is written stands behind what was written before.
-/
import Derived.Test.YtnpfkmbcejgnjaaGreatDoorAp
import Derived.Test.YtnpfkmbcejgnjaaGreatDoorNum
import Derived.Test.YtnpfkmbcejgnjaaGreatDoorTextLays
import Derived.Lib.Builder
import Derived.Lib.AppendStr
import Derived.Lib.UnsafeStr
namespace Go.Proofs.YtnpfkmbcejgnjaaGreatDoor
open Go Go.RowKit Go.Am Go.Lib
set_option maxRecDepth 10000
-- BOXES 4
section
variable {r : Option Nat} {n : Nat} {P : Program} {W0 : World} {N : Nat} {D : List Deferred} {ops : List Oper} {Q : Exit → Act → World → Prop} {o : Oper} {rest : List Oper} {env : Env} {bxs : List Bx} {A : World → Prop}
/-- A call behind which nothing is known but what it tells. -/
theorem wl_callF {c : Call} {f : Operand} {g d : Nat} {capt vs : List Value} {X : Type} {val : X → Value} {Φ : X → Prop} (nb : X → List Bx)
    (hg : guardE ops N env o = some true) (hd : o.dst = some d) (ho : o.op = .call c) (hc : c.callee = .value f) (hf : evO N env f = some (.func (.func g) #[] capt.toArray)) (ha : evArgs (evO N env) c.args.toList = some vs) (hE : entersB P g = true)
    (hC : ∀ W, Hp W0 bxs W → Calls P g (vs ++ capt).toArray W fun e W' => ∃ x, e = .returned (val x) ∧ Φ x ∧ Below W0.heap.size W0 W' ∧ NewBx W0 W' (nb x))
    (h : ∀ x, Φ x → WL r n P N D ops Q rest ((d, val x) :: env) (Hp W0 (nb x))) : WL r n P N D ops Q (o :: rest) env (Hp W0 bxs) := .mk fun a W h1 h2 hp => by
  refine wl_step hg h1 (fun c e => by rw [ho] at e; cases e) ?_
  rw [call_run ho hc (evO_sound h1 _ _ hf) (arr_map (evO_sound h1) ha) hE]
  simp only [Oper.uponIn, hd]
  refine ⟨fun hx => (by cases hx), callsIn_of ((hC W hp).mono ?_)⟩
  rintro e W' ⟨x, rfl, hx, hb, hn⟩
  exact (h x hx).out a W' h1 h2 ⟨hb, hn⟩
end
abbrev bc (l : List UInt8) : List Value := l.map fun b => Value.int .u8 b.toNat
abbrev selfP (b : Nat) : Value := .pointer (some ⟨b, 0, none⟩)
/-- A builder's own block. -/
abbrev bldB (b : Nat) (p v : Value) : Bx := ⟨b, 94, [p, v], true, none⟩
theorem bld_is {W0 W : World} {b : Nat} {p : Value} {V : Vec} {l : List UInt8} (hp : p = .pointer none ∨ p = selfP b) (h : Hp W0 [bldB b p (V.val l.length), V.bx 5 (bc l)] W) (hV : V.OK 1 l.length (bc l)) : Lib.IsBuilder 94 5 W0.heap.size b (Lib.byteCells l) W := by
  have h0 := h.at_ 0 _ rfl rfl
  have hb1 : W.heap[b]? = some (.cells #[p, V.val l.length] 94 (0, 0)) := h0.1
  have hown : W.ownsRow W0.heap.size 5 1 (V.val l.length) l.length (bc l) := by
    refine ⟨by simp, ?_⟩
    obtain ⟨q, cap, junk⟩ := V
    cases q with
    | none => exact .inl ⟨rfl, hV.nil rfl⟩
    | some g =>
      obtain ⟨h3, h4, h5⟩ := hV.cap (by simp)
      have hb : W.heap[g]? = some (.cells (bc l ++ junk).toArray 5 (0, 0)) ∧ W0.heap.size ≤ g := h.at_ 1 _ rfl rfl
      refine .inr ⟨g, cap, _, rfl, hb.2, hb.1, h3, h4, by simpa using h5, ?_⟩
      simp
  have hat : Lib.BuilderAt 94 5 W0.heap.size b p (Lib.byteCells l) W := ⟨h0.2, V.val l.length, hb1, by rw [Lib.byteCells_length]; exact hown, ownBlock_ne hown hb1 (by decide)⟩
  rcases hp with rfl | rfl
  · exact .inl hat
  · exact .inr hat
theorem is_bld {W0 W : World} {b : Nat} {p : Value} {l : List UInt8} (h : Lib.BuilderAt 94 5 W0.heap.size b p (Lib.byteCells l) W) (hb : Below W0.heap.size W0 W) : ∃ V : Vec, V.OK 1 l.length (bc l) ∧ Below W0.heap.size W0 W ∧ NewBx W0 W [bldB b p (V.val l.length), V.bx 5 (bc l)] := by
  obtain ⟨hB, v, hbk, hown, hne⟩ := h
  rw [Lib.byteCells_length] at hown
  have hpb : Hp W0 [bldB b p v] W := ⟨hb, Own.one_sole rfl ⟨hbk, hB⟩⟩
  rcases hown.2 with ⟨rfl, hn⟩ | ⟨g, cap, cur, rfl, hbg, hg, hnc, hcm, hcs, htake⟩
  · have hl : l = [] := List.length_eq_zero_iff.1 hn
    subst hl
    exact ⟨Vec.empty, Vec.OK.empty 1, hb, (hpb.newGone).own⟩
  · have hcur : cur.toList = bc l ++ cur.toList.drop (l.length * 1) := by
      conv => lhs; rw [← List.take_append_drop (l.length * 1) cur.toList]
      rw [htake]; rfl
    have hgb : b ≠ g := fun e => hne (by rw [e]; rfl)
    refine ⟨⟨some g, cap, cur.toList.drop (l.length * 1)⟩, ⟨by simp, fun h => by simp at h, fun _ => ⟨hnc, hcm, ?_⟩⟩, hb, ?_⟩
    · have := congrArg List.length hcur
      rw [List.length_append] at this
      simp only [Array.length_toList] at this
      rw [← this, hcs]
    · refine NewBx.two (A := bldB b p (.slice (some ⟨g, 0, none⟩) l.length cap)) (B := ⟨g, 5, bc l ++ cur.toList.drop (l.length * 1), true, none⟩) ⟨hbk, hB⟩ ⟨?_, hbg⟩ hgb
      show W.heap[g]? = some (.cells (bc l ++ cur.toList.drop (l.length * 1)).toArray 5 (0, 0))
      rw [← hcur]
      exact hg
theorem write_gives {W0 W : World} {b : Nat} {p : Value} {V : Vec} {l : List UInt8} (s : List UInt8) (hp : p = .pointer none ∨ p = selfP b) (h : Hp W0 [bldB b p (V.val l.length), V.bx 5 (bc l)] W) (hV : V.OK 1 l.length (bc l)) (hl : l.length + s.length ≤ 1000000) :
    Calls Tryz.prog 77 #[selfP b, str s] W fun e W' => ∃ x : Vec, e = .returned ((fun _ => .tuple #[.int .i64 s.length, .nilIface]) x) ∧ x.OK 1 (l ++ s).length (bc (l ++ s)) ∧ Below W0.heap.size W0 W' ∧ NewBx W0 W' [bldB b (selfP b) (x.val (l ++ s).length), x.bx 5 (bc (l ++ s))] := by
  have hsz : (⟨s.toArray⟩ : ByteArray).size = s.length := by show s.toArray.size = _; simp
  refine (Tryz.Builder_WriteString W0.heap.size b (Lib.byteCells l) ⟨s.toArray⟩ W (bld_is hp h hV) (by rw [Lib.byteCells_length, hsz]; omega) h.below.size).mono ?_
  rintro e W' ⟨rfl, hat, hb⟩
  have e1 : Lib.byteCells l ++ strCells ⟨s.toArray⟩ = Lib.byteCells (l ++ s) := by simp [Lib.byteCells, strCells]
  rw [e1] at hat
  obtain ⟨x, h1, h2, h3⟩ := is_bld hat (h.below.trans hb)
  exact ⟨x, by rw [hsz], h1, h2, h3⟩
theorem byte_gives {W0 W : World} {b : Nat} {p : Value} {V : Vec} {l : List UInt8} (c : UInt8) (hp : p = .pointer none ∨ p = selfP b) (h : Hp W0 [bldB b p (V.val l.length), V.bx 5 (bc l)] W) (hV : V.OK 1 l.length (bc l)) (hl : l.length + 1 ≤ 1000000) :
    Calls Tryz.prog 80 #[selfP b, .int .u8 c.toNat] W fun e W' => ∃ x : Vec, e = .returned ((fun _ => .nilIface) x) ∧ x.OK 1 (l ++ [c]).length (bc (l ++ [c])) ∧ Below W0.heap.size W0 W' ∧ NewBx W0 W' [bldB b (selfP b) (x.val (l ++ [c]).length), x.bx 5 (bc (l ++ [c]))] := by
  refine (Tryz.Builder_WriteByte W0.heap.size b (Lib.byteCells l) c.toNat W (bld_is hp h hV) (by rw [Lib.byteCells_length]; omega) h.below.size).mono ?_
  rintro e W' ⟨rfl, hat, hb⟩
  have e1 : Lib.byteCells l ++ [.int .u8 (c.toNat : Int)] = Lib.byteCells (l ++ [c]) := by simp [Lib.byteCells]
  rw [e1] at hat
  obtain ⟨x, h1, h2, h3⟩ := is_bld hat (h.below.trans hb)
  exact ⟨x, rfl, h1, h2, h3⟩
theorem string_gives {W0 W : World} {b : Nat} {p : Value} {V : Vec} {l : List UInt8} (hp : p = .pointer none ∨ p = selfP b) (h : Hp W0 [bldB b p (V.val l.length), V.bx 5 (bc l)] W) (hV : V.OK 1 l.length (bc l)) :
    Calls Tryz.prog 81 #[selfP b] W fun e W' => ∃ x : Unit, e = .returned ((fun _ => str l) x) ∧ True ∧ Below W0.heap.size W0 W' ∧ NewBx W0 W' ((fun _ => []) x) := by
  refine (Tryz.Builder_String_any W0.heap.size b l W (bld_is hp h hV) h.below.size).mono ?_
  rintro e W' ⟨rfl, hb⟩
  exact ⟨(), rfl, trivial, h.below.trans hb, NewBx.nil _ _⟩
end Go.Proofs.YtnpfkmbcejgnjaaGreatDoor
