/-
  A stepper of this project: lemmas, one a step, by which the model's code is walked; nothing about any one program stands here.
-/
import Derived.Test.YtnpfkmbcejgnjaaGreatDoorAo
import Derived.Lib.AppendZerosOnto
import Derived.Laws.AppendOwn

/-! part 19 -/
namespace Go.Am
open Go Go.RowKit
/-- One block of W (g) has become another one, or the same with other content; all others are as they were. -/
structure Near (W W' : World) (g g' : Nat) (o' : Obj) : Prop where
  os : W'.os = W.os
  tape : W'.tape = W.tape
  output : W'.output = W.output
  size : W.heap.size ≤ W'.heap.size
  new : W'.heap[g']? = some o'
  at_ : g' = g ∨ W.heap.size ≤ g'
  old : ∀ x, x ≠ g → x < W.heap.size → W'.heap[x]? = W.heap[x]?
theorem Upd.near {W W' : World} {b : Nat} {o : Obj} (h : Upd W W' b o) (hlt : b < W.heap.size) : Near W W' b b o := by
  refine ⟨h.os, h.tape, h.output, by rw [h.heap, Array.size_setIfInBounds]; exact Nat.le_refl _, ?_, .inl rfl, fun x hx _ => ?_⟩
  · rw [h.heap, Array.getElem?_setIfInBounds, if_pos rfl, if_pos hlt]
  · rw [h.heap, Array.getElem?_setIfInBounds, if_neg (fun e => hx e.symm)]
theorem nodup_mid {α : Type} {A C : List α} {b : α} : (A ++ b :: C).Nodup ↔ (b ∉ A ∧ b ∉ C) ∧ (A ++ C).Nodup := by
  simp only [List.nodup_append, List.nodup_cons]
  constructor
  · rintro ⟨h1, ⟨h2, h3⟩, h4⟩
    exact ⟨⟨fun h => h4 b h b (List.mem_cons_self ..) rfl, h2⟩, h1, h3, fun x hx y hy => h4 x hx y (List.mem_cons_of_mem _ hy)⟩
  · rintro ⟨⟨h1, h2⟩, h3, h4, h5⟩
    refine ⟨h3, ⟨h2, h4⟩, fun x hx y hy => ?_⟩
    rcases List.mem_cons.1 hy with rfl | hy
    · exact fun e => h1 (e ▸ hx)
    · exact h5 x hx y hy
theorem Hp.near {W0 W W' : World} {bxs : List Bx} (h : Hp W0 bxs W) {k : Nat} {B B' : Bx} {L1 L2 : List (Nat × Obj)} {b g' : Nat} {ob o' : Obj} (hk : bxs[k]? = some B) (hB : B.blk = L1 ++ (b, ob) :: L2) (hB' : B'.blk = L1 ++ (g', o') :: L2) (hN : Near W W' b g' o') : Hp W0 (bxs.set k B') W' := by
  have hnd := h.own.nd k B hk
  rw [hB, List.map_append, List.map_cons, nodup_mid] at hnd
  obtain ⟨⟨n1, n2⟩, n3⟩ := hnd
  have inB : ∀ p, p ∈ L1 ∨ p ∈ L2 → p ∈ B.blk := fun p hp => by
    rw [hB]
    rcases hp with hp | hp
    · exact List.mem_append_left _ hp
    · exact List.mem_append_right _ (List.mem_cons_of_mem _ hp)
  have hb : (b, ob) ∈ B.blk := by rw [hB]; exact List.mem_append_right _ (List.mem_cons_self ..)
  have ne : ∀ p, p ∈ L1 ∨ p ∈ L2 → p.1 ≠ b := fun p hp e => by
    rcases hp with hp | hp
    · exact n1 (List.mem_map.2 ⟨p, hp, e⟩)
    · exact n2 (List.mem_map.2 ⟨p, hp, e⟩)
  have cases3 : ∀ p, p ∈ B'.blk → (p ∈ L1 ∨ p ∈ L2) ∨ p = (g', o') := fun p hp => by
    rw [hB'] at hp
    rcases List.mem_append.1 hp with hp | hp
    · exact .inl (.inl hp)
    · rcases List.mem_cons.1 hp with hp | hp
      · exact .inr hp
      · exact .inl (.inr hp)
  refine h.turn hk (fun p hp => ?_) ?_ hN.os hN.tape hN.output hN.size (fun p hp => ?_) (fun x hx hlt => hN.old x (fun e => hx _ hb e.symm) hlt)
  · rcases cases3 p hp with hp | rfl
    · exact .inl ⟨p, inB p hp, rfl⟩
    · rcases hN.at_ with e | e
      · exact .inl ⟨_, hb, e.symm⟩
      · exact .inr e
  · rw [hB', List.map_append, List.map_cons, nodup_mid]
    refine ⟨?_, n3⟩
    rcases hN.at_ with e | e
    · rw [show (g', o').1 = b from e]; exact ⟨n1, n2⟩
    · constructor <;> intro hm <;> obtain ⟨p, hp, e2⟩ := List.mem_map.1 hm
      · have := h.own.lt hk (inB p (.inl hp)); have e3 : p.1 = g' := e2; omega
      · have := h.own.lt hk (inB p (.inr hp)); have e3 : p.1 = g' := e2; omega
  · rcases cases3 p hp with hp | rfl
    · rw [hN.old p.1 (ne p hp) (h.own.lt hk (inB p hp))]
      exact (h.own.cell k B hk p (inB p hp)).1
    · exact hN.new
/-! A callee's own view: all blocks but one in a group -/
def noHeap (W : World) : World := { W with heap := #[] }
def othersL (W : World) (g : Nat) : List (Nat × Obj) := (List.range W.heap.size).filterMap fun i => if i = g then none else (W.heap[i]?).map fun o => (i, o)
theorem mem_others {W : World} {g : Nat} {p : Nat × Obj} : p ∈ othersL W g ↔ p.1 ≠ g ∧ W.heap[p.1]? = some p.2 := by
  unfold othersL
  rw [List.mem_filterMap]
  constructor
  · rintro ⟨i, hi, h⟩
    split at h
    · cases h
    · rename_i hne
      cases ho : W.heap[i]? with
      | none => rw [ho] at h; cases h
      | some o => rw [ho] at h; cases h; exact ⟨hne, ho⟩
  · rintro ⟨h1, h2⟩
    refine ⟨p.1, List.mem_range.2 (Array.getElem?_eq_some_iff.1 h2).1, ?_⟩
    rw [if_neg h1, h2]; rfl
theorem others_nodup (W : World) (g : Nat) : ((othersL W g).map (·.1)).Nodup := by
  unfold List.Nodup
  rw [List.pairwise_map]
  refine List.Pairwise.filterMap (R := (· ≠ ·)) _ (fun a a' hne p hp q hq => ?_) List.nodup_range
  have one : ∀ (i : Nat) (p : Nat × Obj), (if i = g then none else (W.heap[i]?).map fun o => (i, o)) = some p → p.1 = i := fun i p h => by
    split at h
    · cases h
    · cases ho : W.heap[i]? with
      | none => rw [ho] at h; cases h
      | some o => rw [ho] at h; cases h; rfl
  rw [one a p hp, one a' q hq]; exact hne
theorem Hp.enterT {W : World} {g : Nat} {B : Bx} {o : Obj} (hB : B.blk = [(g, o)]) (ho : W.heap[g]? = some o) : Hp (noHeap W) [grpB (othersL W g), B] W := by
  have two : ∀ {k : Nat} {C : Bx}, [grpB (othersL W g), B][k]? = some C → (k = 0 ∧ C = grpB (othersL W g)) ∨ (k = 1 ∧ C = B) := fun {k C} h => by
    cases k with
    | zero => simp at h; exact .inl ⟨rfl, h.symm⟩
    | succ k => cases k with
      | zero => simp at h; exact .inr ⟨rfl, h.symm⟩
      | succ k => simp at h
  refine ⟨⟨rfl, rfl, rfl, Nat.zero_le _, fun k hk => absurd hk (Nat.not_lt_zero _)⟩, fun k C hk p hp => ?_, fun k C hk => ?_, fun i j C E hi hj hne p hp q hq => ?_⟩
  · rcases two hk with ⟨_, rfl⟩ | ⟨_, rfl⟩
    · exact ⟨(mem_others.1 (show p ∈ othersL W g from hp)).2, Nat.zero_le _⟩
    · rw [hB] at hp; obtain rfl := List.mem_singleton.1 hp; exact ⟨ho, Nat.zero_le _⟩
  · rcases two hk with ⟨_, rfl⟩ | ⟨_, rfl⟩
    · exact others_nodup W g
    · rw [hB]; exact List.nodup_cons.2 ⟨List.not_mem_nil, List.nodup_nil⟩
  · rcases two hi with ⟨rfl, rfl⟩ | ⟨rfl, rfl⟩ <;> rcases two hj with ⟨rfl, rfl⟩ | ⟨rfl, rfl⟩
    · exact absurd rfl hne
    · rw [hB] at hq; obtain rfl := List.mem_singleton.1 hq
      exact (mem_others.1 (show p ∈ othersL W g from hp)).1
    · rw [hB] at hp; obtain rfl := List.mem_singleton.1 hp
      exact fun e => (mem_others.1 (show q ∈ othersL W g from hq)).1 e.symm
    · exact absurd rfl hne
theorem near_of {W W' : World} {g g' : Nat} {o o' : Obj} {B' : Bx} (hg : W.heap[g]? = some o) (hB' : B'.blk = [(g', o')]) (hb : Below (noHeap W).heap.size (noHeap W) W') (hn : NewBx (noHeap W) W' [grpB (othersL W g), B']) : Near W W' g g' o' := by
  have c0 : ∀ p ∈ othersL W g, W'.heap[p.1]? = some p.2 := fun p hp => (hn.cell 0 _ rfl p hp).1
  have c1 : W'.heap[g']? = some o' := (hn.cell 1 B' rfl (g', o') (by rw [hB']; exact List.mem_cons_self ..)).1
  have old : ∀ x, x ≠ g → x < W.heap.size → W'.heap[x]? = W.heap[x]? := fun x hx hlt => by
    have h1 : W.heap[x]? = some W.heap[x] := Array.getElem?_eq_getElem hlt
    rw [h1]
    exact c0 (x, W.heap[x]) (mem_others.2 ⟨hx, h1⟩)
  have at_ : g' = g ∨ W.heap.size ≤ g' := by
    by_cases e : g' = g
    · exact .inl e
    · refine .inr (Nat.le_of_not_lt fun hlt => ?_)
      have h1 : W.heap[g']? = some W.heap[g'] := Array.getElem?_eq_getElem hlt
      exact hn.apart 0 1 _ B' rfl rfl (by decide) (g', W.heap[g']) (mem_others.2 ⟨e, h1⟩) (g', o') (by rw [hB']; exact List.mem_cons_self ..) rfl
  have hlt := (Array.getElem?_eq_some_iff.1 hg).1
  have hlt' := (Array.getElem?_eq_some_iff.1 c1).1
  refine ⟨hb.os, hb.tape, hb.output, ?_, c1, at_, old⟩
  by_cases e : W.heap.size - 1 = g
  · rcases at_ with h | h <;> omega
  · have h1 := old (W.heap.size - 1) e (by omega)
    rw [Array.getElem?_eq_getElem (show W.heap.size - 1 < W.heap.size by omega)] at h1
    have := (Array.getElem?_eq_some_iff.1 h1).1
    omega
section
variable {r : Option Nat} {n : Nat} {P : Program} {W0 : World} {N : Nat} {D : List Deferred} {ops : List Oper} {Q : Exit → Act → World → Prop} {o : Oper} {rest : List Oper} {env : Env} {bxs : List Bx}
theorem calls_enterT {f : Nat} {fn : Func} {c : Code} {args : List Value} {X : Type} {val : X → Value} {Φ : X → Prop} {nb : X → List Bx} {W : World} (h0 : Hp W0 bxs W)
    (hf : P.funcs[f]? = some fn) (hb : fn.body = some c) (hN : fn.ntmps = N) (hl : Nat.ble args.length N = true)
    (h : WC none 0 P N [] c (RetQ P fn W0 val Φ nb) (argEnv 0 args) (Hp W0 bxs)) : Calls P f args.toArray W fun e W' => ∃ x, e = .returned (val x) ∧ Φ x ∧ Below W0.heap.size W0 W' ∧ NewBx W0 W' (nb x) := by
  have hl : args.length ≤ N := Nat.le_of_ble_eq_true hl
  have h1 := h.out { tmps := args.toArray ++ Array.replicate (fn.ntmps - args.toArray.size) undef, defers := [] } W (by simp [hN]; omega) rfl h0
  rw [ov_same] at h1
  · refine callsIn_wide (n := 0) |>.1 (callsIn_of_wp_marks hf hb trivial (wpIn_mono (Q := RetQ P fn W0 val Φ nb) h1 ?_))
    intro e a w h
    exact h.out
  · intro p hp _
    obtain ⟨_, h2⟩ := argEnv_mem args 0 p hp
    rw [Nat.sub_zero] at h2
    have hlt := (List.getElem?_eq_some_iff.1 h2).1
    rw [Array.getElem?_append_left (by simpa using hlt)]
    simpa using h2
theorem ne_ret0 {fn : Func} {T : Tbl} {X : Type} {val : X → Value} {Φ : X → Prop} {nb : X → List Bx} (hT : okB P T = true) (hr : fn.results = #[])
    (x : X) (hv : .tuple #[] = val x) (hx : Φ x) (hnb : ∀ W, Hp W0 bxs W → NewBx W0 W (nb x)) : NE N [] (RetQ P fn W0 val Φ nb) .ret env (Hp W0 bxs) :=
  ne_ret (rvs := []) (vs := []) hT hr rfl (fun i h _ => absurd h (Nat.not_lt_zero _)) x (by simpa using hv) hx hnb
/-- .. and where the code just ends. -/
theorem ne_end0 {fn : Func} {T : Tbl} {X : Type} {val : X → Value} {Φ : X → Prop} {nb : X → List Bx} (hT : okB P T = true) (hr : fn.results = #[])
    (x : X) (hv : .tuple #[] = val x) (hx : Φ x) (hnb : ∀ W, Hp W0 bxs W → NewBx W0 W (nb x)) : NE N [] (RetQ P fn W0 val Φ nb) .normal env (Hp W0 bxs) := .mk fun a W ha hd hp => by
  refine .mk ?_
  show LeavesInM (Fw none) 0 P fn (ov env a).tmps _ (ov env a).defers .returning W
  rw [ov_defers, hd]
  exact ⟨_, results_run (rvs := []) (vs := []) hT hr rfl (fun i h _ => absurd h (Nat.not_lt_zero _)) ha hp, x, by rw [← hv]; rfl, hx, hp.below, hnb W hp⟩
/-- A call that changes one listed block. -/
theorem wl_callN (k : Nat) {c : Call} {f : Operand} {g d : Nat} {capt vs : List Value} {X : Type} {val : X → Value} {Φ : X → Prop} {B : Bx} {L1 L2 : List (Nat × Obj)} {b : Nat} {ob : Obj} (B' : X → Bx) {g' : X → Nat} {o' : X → Obj}
    (hg : guardE ops N env o = some true) (hd : o.dst = some d) (ho : o.op = .call c) (hc : c.callee = .value f) (hf : evO N env f = some (.func (.func g) #[] capt.toArray)) (ha : evArgs (evO N env) c.args.toList = some vs) (hE : entersB P g = true)
    (hk : nth bxs k = some B) (hB : B.blk = L1 ++ (b, ob) :: L2) (hB' : ∀ x, Φ x → (B' x).blk = L1 ++ (g' x, o' x) :: L2)
    (hC : ∀ W, Hp W0 bxs W → Calls P g (vs ++ capt).toArray W fun e W' => ∃ x, e = .returned (val x) ∧ Φ x ∧ Near W W' b (g' x) (o' x))
    (h : ∀ x, Φ x → WL r n P N D ops Q rest ((d, val x) :: env) (Hp W0 (bxs.set k (B' x)))) : WL r n P N D ops Q (o :: rest) env (Hp W0 bxs) := .mk fun a W h1 h2 hp => by
  rw [nth_eq] at hk
  refine wl_step hg h1 (fun c e => by rw [ho] at e; cases e) ?_
  rw [call_run ho hc (evO_sound h1 _ _ hf) (arr_map (evO_sound h1) ha) hE]
  simp only [Oper.uponIn, hd]
  refine ⟨fun hx => (by cases hx), callsIn_of ((hC W hp).mono ?_)⟩
  rintro e W' ⟨x, rfl, hx, hN⟩
  exact (h x hx).out a W' h1 h2 (hp.near hk hB (hB' x hx) hN)
/-- A call of a function without a body. -/
theorem wl_ext {c : Call} {f : Operand} {g d : Nat} {capt vs : List Value} {v : Value} {A : World → Prop}
    (hg : guardE ops N env o = some true) (hd : o.dst = some d) (ho : o.op = .call c) (hc : c.callee = .value f) (hf : evO N env f = some (.func (.func g) #[] capt.toArray)) (ha : evArgs (evO N env) c.args.toList = some vs)
    (hrun : ∀ W, A W → (callFunc g (vs ++ capt).toArray).run P W = .ok (.value v) W)
    (h : WL r n P N D ops Q rest ((d, v) :: env) A) : WL r n P N D ops Q (o :: rest) env A :=
  wl_val hg hd (fun c e => by rw [ho] at e; cases e) (fun ρ W hρ hA => by
    have := hrun W hA
    simp only [execOp, ho, resolve, hc, hρ _ _ hf, arr_map hρ ha, Sem.run_bind, Deferred.ofValue, Sem.run_pure, Result.andThen_ok, invoke]
    simpa using this) h
theorem wl_cvA {d : Nat} {t u : TypeId} {x : Operand} {k k' kt : IntKind} {z : Int} {A : World → Prop} (ht : P.underlying t = some (.int kt)) (hu : P.underlying u = some (.int k)) (hg : guardE ops N env o = some true) (hd : o.dst = some d) (ho : o.op = .convert t u x) (hx : evO N env x = some (.int k' z))
    (h : WL r n P N D ops Q rest ((d, .int k (k.wrap z)) :: env) A) : WL r n P N D ops Q (o :: rest) env A :=
  wl_val hg hd (fun c e => by rw [ho] at e; cases e) (fun ρ W hρ _ => by
    simp [execOp, ho, convert, hρ _ _ hx, run_underlying ht, run_underlying hu, Conv.intToInt]) h
theorem splice_mid (A B C X : List Value) (h : B.length = X.length) : splice (A ++ (B ++ C)) A.length X = A ++ (X ++ C) := by
  have h1 := splice_right A (B ++ C) 0 X
  rw [Nat.add_zero] at h1
  rw [h1]
  simp [splice, ← h]
/-- A store into a block of a group. -/
theorem wl_storeG (k : Nat) (ys : List Value) (B' : Bx) {T : Tbl} {i : TI} {t ty : TypeId} {x y : Operand} {B : Bx} {L1 L2 : List (Nat × Obj)} {b off : Nat} {c : List Value} {v : Value} (hT : okB P T = true) (hg : guardE ops N env o = some true) (hd : o.dst = none) (ho : o.op = .store t x y) (ht : find T t = some i)
    (hk : nth bxs k = some B) (hB : B.blk = L1 ++ (b, .cells c.toArray ty (0, 0)) :: L2) (hB' : B'.blk = L1 ++ (b, .cells ys.toArray ty (0, 0)) :: L2) (hx : evO N env x = some (.pointer (some ⟨b, off, none⟩))) (hy : evO N env y = some v)
    (hs : Nat.beq v.cells.toList.length i.size = true) (h1 : allOne v.cells.toList = true) (hl : off + i.size ≤ c.length) (hys : splice c off v.cells.toList = ys)
    (h : WL r n P N D ops Q rest env (Hp W0 (bxs.set k B'))) : WL r n P N D ops Q (o :: rest) env (Hp W0 bxs) := .mk fun a W ha hd' hp => by
  rw [nth_eq] at hk
  subst hys
  refine wl_step hg ha (fun c e => by rw [ho] at e; cases e) ?_
  have h3 : W.heap[b]? = some (.cells c.toArray ty (0, 0)) := (hp.own.cell k B hk (b, .cells c.toArray ty (0, 0)) (by rw [hB]; exact List.mem_append_right _ (List.mem_cons_self ..))).1
  obtain ⟨W', hr, hu⟩ := run_storeVar (P := P) (find_row hT ht) h3 (Nat.eq_of_beq_eq_true hs) hl h1
  have : (execOp (ov env a).eval o).run P W = .ok .skip W' := by
    simp [execOp, ho, Instr.storeAt, Instr.sureAddr, evO_sound ha _ _ hx, evO_sound ha _ _ hy, hr]
  rw [this]
  simp only [Oper.uponIn, hd]
  exact h.out a W' ha hd' (hp.near hk hB hB' (hu.near (Array.getElem?_eq_some_iff.1 h3).1))
/-- copy(d, s), d in a row that is listed. -/
theorem wl_copy (k : Nat) (ys : List Value) {d : Nat} {t t' e : TypeId} {size bytes : Nat} {z : Value} (hty : VecTy P t e size bytes z) {c : Call} {x y : Operand} {B : Bx} {off dl dc sl sc m : Nat} {cs : List Value} {a : Addr}
    (hg : guardE ops N env o = some true) (hd : o.dst = some d) (ho : o.op = .call c) (hc : c.callee = .builtin .copy) (ha : c.args = #[x, y]) (hat : c.argTypes = #[t, t'])
    (hk : nth bxs k = some B) (hon : B.row = true) (hx : evO N env x = some (.slice (some ⟨B.b, off, none⟩) dl dc)) (hy : evO N env y = some (.slice (some a) sl sc)) (hm : Nat.min sl dl = m) (hl : cs.length = m * size)
    (hcs : ∀ W, Hp W0 bxs W → ∀ j u, cs[j]? = some u → W.cell? (a.add j) = some u) (h1 : allOne cs = true) (hfit : off + cs.length ≤ B.cells.length) (hys : splice B.cells off cs = ys)
    (h : WL r n P N D ops Q rest ((d, goInt m) :: env) (Hp W0 (bxs.set k { B with cells := ys }))) : WL r n P N D ops Q (o :: rest) env (Hp W0 bxs) := .mk fun act W h2 h3 hp => by
  rw [nth_eq] at hk
  subst hys
  subst hm
  refine wl_step hg h2 (fun c e => by rw [ho] at e; cases e) ?_
  have h4 := (hp.at_ _ _ hk (Bx.row_on hon).1).1
  rw [(Bx.row_on hon).2] at h4
  obtain ⟨i, hi, hz, hsz, hby⟩ := hty.hi
  subst hsz
  have hf := run_firstCells_some (P := P) W i.size (Nat.min sl dl) a sl sc cs hl (hcs W hp)
  obtain ⟨W', hr, hu⟩ := run_storeCells (P := P) (o := off) cs 0 B.cells W h4 (by omega) h1
  have e1 : c.args.map (ov env act).eval = #[.slice (some ⟨B.b, off, none⟩) dl dc, .slice (some a) sl sc] := by rw [ha]; simp [evO_sound h2 _ _ hx, evO_sound h2 _ _ hy]
  have hrun : (Builtin.copy_ #[t, t'] o.type #[.slice (some ⟨B.b, off, none⟩) dl dc, .slice (some a) sl sc]).run P W = .ok (goInt (Nat.min sl dl)) W' := by
    simp [Builtin.copy_, run_underlying hty.ht, Builtin.lenOf, sizeOf, typeInfo, hi, hf, hr]
  have : (execOp (ov env act).eval o).run P W = .ok (.value (goInt (Nat.min sl dl))) W' := by
    simp only [execOp, ho, resolve, hc, invoke, builtin, e1, hat, Sem.run_bind, Sem.run_pure, Result.andThen_ok, hrun]
  rw [this]
  simp only [Oper.uponIn, hd]
  refine h.out act W' h2 h3 (hp.upd hk hon ?_)
  rw [Nat.add_zero] at hu
  exact hu
/-- append(s, make([]E, m)...), s without room for so many. -/
theorem wl_appendGrow {d : Nat} {t u e : TypeId} {size bytes : Nat} {z : Value} (hty : VecTy P t e size bytes z) {ku : IntKind} (hu : P.underlying u = some (.int ku)) {c : Call} {s x : Operand} (m : Nat) {zi : Int} {a : Addr} {sl sc : Nat} {cs : List Value}
    (hg : guardE ops N env o = some true) (hd : o.dst = some d) (ho : o.op = .call c) (hc : c.callee = .builtin .append) (ha : c.args = #[s, x]) (hat : c.argTypes = #[t, u])
    (hs : evO N env s = some (.slice (some a) sl sc)) (hx : evO N env x = some (.int .i64 zi)) (hzi : zi = m) (h0 : 0 < m) (hroom : sc < sl + m) (h63 : sl + m ≤ maxLen) (hbytes : (sl + m) * bytes ≤ 140737488355328)
    (hl : cs.length = sl * size) (hcs : ∀ W, Hp W0 bxs W → ∀ j u, cs[j]? = some u → W.cell? (a.add j) = some u)
    (h : ∀ b g : Nat, sl + m ≤ g → g ≤ maxLen → WL r n P N D ops Q rest ((d, .slice (some ⟨b, 0, none⟩) (sl + m) g) :: env) (Hp W0 (bxs ++ [⟨b, e, cs ++ (repL z.cells.toList m ++ repL z.cells.toList (g - (sl + m))), true, none⟩]))) : WL r n P N D ops Q (o :: rest) env (Hp W0 bxs) := .mk fun act W h2 h3 hp => by
  refine wl_step hg h2 (fun c e => by rw [ho] at e; cases e) ?_
  subst hzi
  obtain ⟨i, hi, hz, hsz, hby⟩ := hty.hi
  subst hsz
  subst hby
  have hp2 : Hp W0 bxs W.drew := hp.grow ⟨rfl, rfl, rfl, Nat.le_refl _, fun _ _ => rfl⟩
  have hold := run_firstCells_some (P := P) W.drew i.size sl a sl sc cs hl (hcs W.drew hp2)
  have hb2 : m * i.bytes ≤ 281474976710656 := by
    have : m * i.bytes ≤ (sl + m) * i.bytes := Nat.mul_le_mul_right _ (Nat.le_add_left _ _)
    omega
  have hr := Lib.run_append_grow_zeros (P := P) W t u o.type e i z .i64 ku hty.ht hu hi hz (some a) sl sc cs hold m h0 hty.pos hroom (by simp only [maxLen] at h63; omega) hb2 (growslice_fits hroom hbytes)
  have e1 : c.args.map (ov env act).eval = #[.slice (some a) sl sc, .int .i64 (m : Nat)] := by rw [ha]; simp [evO_sound h2 _ _ hs, evO_sound h2 _ _ hx]
  obtain ⟨g, hgc⟩ : ∃ g, grownCap W (sl + m) sc e = g := ⟨_, rfl⟩
  have hge : sl + m ≤ g := hgc ▸ grownCap_ge W (sl + m) sc e
  have hle : g ≤ maxLen := hgc ▸ grownCap_le_maxLen W (sl + m) sc e h63
  rw [hgc] at hr
  have : (execOp (ov env act).eval o).run P W = .ok (.value (.slice (some ⟨W.heap.size, 0, none⟩) (sl + m) g)) (W.drew.alloc (.cells (cs.toArray ++ Builtin.zeroCells z.cells m ++ Builtin.zeroCells z.cells (g - (sl + m))) e)) := by
    simp only [execOp, ho, resolve, hc, invoke, builtin, e1, hat, Sem.run_bind, Sem.run_pure, Result.andThen_ok, hr]
  rw [this]
  simp only [Oper.uponIn, hd]
  refine (h W.heap.size g hge hle).out act _ h2 h3 ?_
  have hp3 := hp2.alloc e (cs ++ (repL z.cells.toList m ++ repL z.cells.toList (g - (sl + m))))
  have e2 : (cs.toArray ++ Builtin.zeroCells z.cells m ++ Builtin.zeroCells z.cells (g - (sl + m))) = (cs ++ (repL z.cells.toList m ++ repL z.cells.toList (g - (sl + m)))).toArray := by
    apply Array.toList_inj.1
    simp [zeroCells_toList]
  rw [e2]
  exact hp3
end
end Go.Am
