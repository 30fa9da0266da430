/-
  A stepper of this project: lemmas, one a step, by which the model's code is walked; nothing about any one program stands here.
-/
import Derived.Test.YtnpfkmbcejgnjaaGreatDoorAn
import Derived.Laws.Cover3

/-! part 18 -/
namespace Go.Am
open Go Go.RowKit
section
variable {r : Option Nat} {n : Nat} {P : Program} {W0 : World} {N : Nat} {D : List Deferred} {ops : List Oper} {Q : Exit → Act → World → Prop} {l : List Oper} {env : Env} {bxs : List Bx}
theorem Hp.newGone {W : World} (h : Hp W0 bxs W) : Hp W0 (bxs ++ [gone]) W := h.append (Below.refl _ _) (Own.one (fun p hp => by cases hp) List.nodup_nil)
theorem wc_newGone {c : Code} (h : WC r n P N D c Q env (Hp W0 (bxs ++ [gone]))) : WC r n P N D c Q env (Hp W0 bxs) := .mk fun a W ha hd hp => h.out a W ha hd hp.newGone
theorem wl_newGone (h : WL r n P N D ops Q l env (Hp W0 (bxs ++ [gone]))) : WL r n P N D ops Q l env (Hp W0 bxs) := .mk fun a W ha hd hp => h.out a W ha hd hp.newGone
/-- An append of a row that was just built, its end told. -/
theorem wl_appendTo {o : Oper} {rest : List Oper} (k j : Nat) {d : Nat} {t e : TypeId} {size bytes : Nat} {z : Value} (hty : VecTy P t e size bytes z) {c : Call} {s x : Operand} {V : Vec} {m cp len : Nat} {xs : List Value} {B : Bx} (n' : Nat) (ys : List Value)
    (hg : guardE ops N env o = some true) (hd : o.dst = some d) (ho : o.op = .call c) (hc : c.callee = .builtin .append) (ha : c.args = #[s, x]) (hat : c.argTypes = #[t, t])
    (hj : nth bxs j = some B) (hon : B.row = true) (hx : evO N env x = some (.slice (some ⟨B.b, 0, none⟩) m cp))
    (hs : evO N env s = some (V.val len)) (hk : nth bxs k = some (V.bx e xs)) (hV : V.OK size len xs)
    (hl : B.cells.length = m * size) (h1 : allOne B.cells = true) (hn : len + m = n') (hys : xs ++ B.cells = ys) (h63 : n' ≤ maxLen) (hbytes : n' * bytes ≤ 140737488355328)
    (hm : Nat.beq m 0 = false)
    (h : ∀ (g cap : Nat) (junk : List Value), (⟨some g, cap, junk⟩ : Vec).OK size n' ys → WL r n P N D ops Q rest ((d, .slice (some ⟨g, 0, none⟩) n' cap) :: env) (Hp W0 (bxs.set k ⟨g, e, ys ++ junk, true, none⟩))) : WL r n P N D ops Q (o :: rest) env (Hp W0 bxs) := by
  subst hn
  subst hys
  refine wl_appendBx k j hty hg hd ho hc ha hat hj hon hx hs hk hV hl h1 h63 hbytes fun V' hV' hp => ?_
  obtain ⟨p, cap, junk⟩ := V'
  cases p with
  | none => rw [hp rfl] at hm; cases hm
  | some g => exact h g cap junk hV'
/-- A store whose place is known by arithmetic; the row's end told. -/
theorem wl_storeTo {o : Oper} {rest : List Oper} (k : Nat) (ys : List Value) {T : Tbl} {i : TI} {t : TypeId} {x y : Operand} {B : Bx} {off : Nat} {v : Value} (hT : okB P T = true) (hg : guardE ops N env o = some true) (hd : o.dst = none) (ho : o.op = .store t x y) (ht : find T t = some i)
    (hk : nth bxs k = some B) (hx : evO N env x = some (.pointer (some ⟨B.b, off, none⟩))) (hon : B.row = true) (hy : evO N env y = some v)
    (hs : Nat.beq v.cells.toList.length i.size = true) (h1 : allOne v.cells.toList = true) (hl : off + i.size ≤ B.cells.length) (hys : splice B.cells off v.cells.toList = ys)
    (h : WL r n P N D ops Q rest env (Hp W0 (bxs.set k { B with cells := ys }))) : WL r n P N D ops Q (o :: rest) env (Hp W0 bxs) := .mk fun a W ha hd' hp => by
  rw [nth_eq] at hk
  subst hys
  refine wl_step hg ha (fun c e => by rw [ho] at e; cases e) ?_
  have h3 := (hp.at_ _ _ hk (Bx.row_on hon).1).1
  rw [(Bx.row_on hon).2] at h3
  obtain ⟨W', hr, hu⟩ := run_storeVar (P := P) (find_row hT ht) h3 (Nat.eq_of_beq_eq_true hs) hl h1
  have : (execOp (ov env a).eval o).run P W = .ok .skip W' := by
    simp [execOp, ho, Instr.storeAt, Instr.sureAddr, evO_sound ha _ _ hx, evO_sound ha _ _ hy, hr]
  rw [this]
  simp only [Oper.uponIn, hd]
  exact h.out a W' ha hd' (hp.upd hk hon hu)
/-- []E{} -/
theorem wl_buildEmpty {o : Oper} {rest : List Oper} {T : Tbl} {i : TI} {d : Nat} {t : TypeId} (hT : okB P T = true) (hg : guardE ops N env o = some true) (hd : o.dst = some d) (ho : o.op = .buildSlice t 0 #[]) (ht : find T t = some i) (hk : i.kind = 2)
    (h : ∀ b, WL r n P N D ops Q rest ((d, .slice (some ⟨b, 0, none⟩) 0 0) :: env) (Hp W0 (bxs ++ [⟨b, i.elem, [], true, none⟩]))) : WL r n P N D ops Q (o :: rest) env (Hp W0 bxs) := .mk fun a W ha hd' hp => by
  refine wl_step hg ha (fun c e => by rw [ho] at e; cases e) ?_
  obtain ⟨hu, hs⟩ := row_kind2 (find_row hT ht) hk
  have e0 : Array.map (fun _ : Nat => (default : Value)) (Array.range 0) = #[] := by apply Array.toList_inj.1; simp
  have : (execOp (ov env a).eval o).run P W = .ok (.value (.slice (some ⟨W.heap.size, 0, none⟩) 0 0)) (W.alloc (.cells #[] i.elem)) := by
    simp only [execOp, ho, Instr.buildSlice, Sem.run_bind, run_underlying hu, Result.andThen_ok, sizeB_run hs]
    rw [if_neg (by omega), if_pos (by omega)]
    simp only [Sem.run_pure]
    simp [Instr.fill, newRow, e0]
  rw [this]
  simp only [Oper.uponIn, hd]
  exact (h W.heap.size).out a _ ha hd' (hp.alloc i.elem [])
/-- A slice set against nil. -/
theorem wl_nilEq {o : Oper} {rest : List Oper} {A : World → Prop} {T : Tbl} {i : TI} {d : Nat} {t u : TypeId} {x y : Operand} {a : Option Addr} {len cap : Nat} (hT : okB P T = true) (hg : guardE ops N env o = some true) (hd : o.dst = some d) (ho : o.op = .binOp .eql t x y u) (ht : find T t = some i) (hk : i.kind = 2)
    (hx : evO N env x = some (.slice a len cap)) (hy : evO N env y = some (.slice none 0 0)) (h : WL r n P N D ops Q rest ((d, .bool a.isNone) :: env) A) : WL r n P N D ops Q (o :: rest) env A :=
  wl_val hg hd (fun c e => by rw [ho] at e; cases e) (fun ρ W hρ _ => by
    obtain ⟨hu, _⟩ := row_kind2 (find_row hT ht) hk
    have he := run_equal_slice_nil (P := P) W t i.elem a len cap hu
    have hg : (eqGuard .eql t x y (.slice a len cap) (.slice none 0 0)).run P W = .ok () W := by simp [eqGuard]
    have hb : (binOp .eql t (.slice a len cap) (.slice none 0 0)).run P W = .ok (.bool a.isNone) W := by
      simp only [binOp]
      simp only [Sem.run_bind, he, Result.andThen_ok, Sem.run_pure]
    simp only [execOp, ho, hρ _ _ hx, hρ _ _ hy, Sem.run_bind, hg, hb, Result.andThen_ok, Sem.run_pure]) h
/-- Two listed things put together. -/
theorem ne_join (k i : Nat) {e : Exit} {B C : Bx} (E : Bx) (hne : Nat.beq k i = false) (hk : nth bxs k = some B) (hi : nth bxs i = some C) (hE : E.blk = C.blk ++ B.blk) (h : NE N D Q e env (Hp W0 ((bxs.set k E).set i gone))) : NE N D Q e env (Hp W0 bxs) := .mk fun a W ha hd hp =>
  h.out a W ha hd (hp.join (fun e => by subst e; rw [show Nat.beq k k = true from Nat.beq_refl k] at hne; cases hne) (by rw [← nth_eq]; exact hk) (by rw [← nth_eq]; exact hi) hE)
def grpB (l : List (Nat × Obj)) : Bx := ⟨0, 0, [], true, some (.grp l)⟩
theorem Hp.newGrp {W : World} (h : Hp W0 bxs W) : Hp W0 (bxs ++ [grpB []]) W := h.append (Below.refl _ _) (Own.one (fun p hp => by cases hp) List.nodup_nil)
theorem wc_newGrp {c : Code} (h : WC r n P N D c Q env (Hp W0 (bxs ++ [grpB []]))) : WC r n P N D c Q env (Hp W0 bxs) := .mk fun a W ha hd hp => h.out a W ha hd hp.newGrp
theorem splice_right (a b : List Value) (o : Nat) (v : List Value) : splice (a ++ b) (a.length + o) v = a ++ splice b o v := by
  simp only [splice, List.take_append, List.drop_append]
  rw [List.take_of_length_le (show a.length ≤ a.length + o by omega), List.drop_eq_nil_of_le (show a.length ≤ a.length + o + v.length by omega)]
  rw [show a.length + o - a.length = o by omega, show a.length + o + v.length - a.length = o + v.length by omega]
  simp [List.append_assoc]
end
end Go.Am
