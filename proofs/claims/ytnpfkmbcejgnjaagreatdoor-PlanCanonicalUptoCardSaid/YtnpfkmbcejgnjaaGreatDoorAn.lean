/-
  A stepper of this project: lemmas, one a step, by which the model's code is walked; nothing about any one program stands here.
-/
import Derived.Test.YtnpfkmbcejgnjaaGreatDoorAm
import Derived.Laws.Small
import Derived.Maps.AppendAt

/-! part 14 -/
namespace Go.Am
open Go Go.RowKit
def repL (c : List Value) : Nat → List Value
  | 0 => []
  | n + 1 => c ++ repL c n
theorem repL_length (c : List Value) : ∀ n, (repL c n).length = n * c.length
  | 0 => by simp [repL]
  | n + 1 => by rw [repL, List.length_append, repL_length c n, Nat.succ_mul, Nat.add_comm]
theorem repL_get (c : List Value) : ∀ (n j : Nat), j < n * c.length → (repL c n)[j]? = c[j % c.length]?
  | 0, j, h => by simp at h
  | n + 1, j, h => by
    rw [repL]
    by_cases hj : j < c.length
    · rw [List.getElem?_append_left hj, Nat.mod_eq_of_lt hj]
    · have hj : c.length ≤ j := by omega
      rw [List.getElem?_append_right hj, repL_get c n (j - c.length) (by rw [Nat.succ_mul] at h; omega), ← Nat.mod_eq_sub_mod hj]
theorem zeros_eq (c : Array Value) (n m : Nat) (hm : m = c.size) : ((Array.range (n * m)).map (c[· % c.size]!)).toList = repL c.toList n := by
  subst hm
  apply List.ext_getElem?
  intro j
  by_cases hj : j < n * c.size
  · have hpos : 0 < c.size := by
      rcases Nat.eq_zero_or_pos c.size with h | h
      · rw [h] at hj; simp at hj
      · exact h
    have h1 := repL_get c.toList n j (by simpa using hj)
    rw [h1]
    have hlt : j % c.size < c.size := Nat.mod_lt _ hpos
    simp [hj, hlt]
  · have h1 : (repL c.toList n).length = n * c.size := by rw [repL_length]; simp
    rw [List.getElem?_eq_none (by simp; omega), List.getElem?_eq_none (by rw [h1]; omega)]

section
variable {r : Option Nat} {n : Nat} {P : Program} {W0 : World} {N : Nat} {D : List Deferred} {Q : Exit → Act → World → Prop} {env : Env} {bxs : List Bx}
structure CutQ {X : Type} (N : Nat) (D : List Deferred) (W0 : World) (L : X → Env) (B : X → List Bx) (Φ : X → Prop) (a : Act) (W : World) : Prop where
  out : ∃ x, Φ x ∧ Live N D (L x) a ∧ Hp W0 (B x) W
theorem wc_cut {x y : Code} {X : Type} (L : X → Env) (B : X → List Bx) (Φ : X → Prop) (h1 : WC r n P N D x (Exit.then (CutQ N D W0 L B Φ) Q) env (Hp W0 bxs))
    (h2 : ∀ z, Φ z → WC r n P N D y Q (L z) (Hp W0 (B z))) : WC r n P N D (.seq x y) Q env (Hp W0 bxs) := .mk fun a W ha hd hp => by
  refine (wc_seq ⟨fun a W ha hd hp => wpIn_mono (h1.out a W ha hd hp) ?_⟩ : WC r n P N D (.seq x y) Q env (Hp W0 bxs)).out a W ha hd hp
  intro e a' W' hq
  cases e with
  | normal =>
    obtain ⟨z, hz, hl, hp'⟩ := CutQ.out hq
    have := (h2 z hz).out a' W' hl.size hl.defers hp'
    rw [ov_same (fun p hp _ => hl.get p hp)] at this
    exact this
  | _ => exact hq
theorem ne_cut {X : Type} {L : X → Env} {B : X → List Bx} {Φ : X → Prop} (x : X) (hx : Φ x) (hL : liveB N env (L x)) (nb : List Bx) (hB : bxs = B x ++ nb) : NE N D (Exit.then (CutQ N D W0 L B Φ) Q) .normal env (Hp W0 bxs) := .mk fun _ _ ha hd hp =>
  ⟨x, hx, live_of ha hd hL, by rw [hB] at hp; exact hp.take⟩
theorem ne_cutP {X : Type} {L : X → Env} {B : X → List Bx} {Φ : X → Prop} (x : X) (hx : Φ x) (hL : liveB N env (L x)) (s : List Nat) (hs : s.Nodup) (hp : pick bxs s = some (B x)) : NE N D (Exit.then (CutQ N D W0 L B Φ) Q) .normal env (Hp W0 bxs) := .mk fun _ _ ha hd hh =>
  ⟨x, hx, live_of ha hd hL, hh.pick s hs hp⟩
theorem wl_buildRow {ops rest : List Oper} {o : Oper} {T : Tbl} {i : TI} {d : Nat} {t : TypeId} {len : Nat} {parts : Array (Nat × Operand)} {vs : List (Nat × Value)} (z : Value) {c : List Value} (hT : okB P T = true) (hg : guardE ops N env o = some true) (hd : o.dst = some d) (ho : o.op = .buildSlice t len parts) (ht : find T t = some i) (hk : i.kind = 2)
    (hz : ∀ W, (zeroValue i.elem).run P W = .ok z W) (hp : evParts (evO N env) parts.toList = some vs) (hzs : i.elemSize = z.cells.size) (h24 : Nat.ble (len * i.elemSize) (2 ^ 24) = true) (h0 : Nat.beq (len * i.elemSize) 0 = false)
    (hc : fillL (placeS i.elemSize) (repL z.cells.toList len) vs = some c)
    (h : ∀ b, WL r n P N D ops Q rest ((d, .slice (some ⟨b, 0, none⟩) len len) :: env) (Hp W0 (bxs ++ [⟨b, i.elem, c, true, none⟩]))) : WL r n P N D ops Q (o :: rest) env (Hp W0 bxs) :=
  wl_buildSlice z hT hg hd ho ht hk hz hp h24 h0 (by rw [zeros_eq _ _ _ hzs]; exact hc) h
/-! Bools compared -/
def boolOf (op : BinOp) (a b : Bool) : Option Bool :=
  match op with
  | .eql => some (a == b)
  | .neq => some (!(a == b))
  | _ => none
theorem boolBin_run {ρ : Operand → Value} {o : Oper} {op : BinOp} {t u : TypeId} {x y : Operand} {a b c : Bool} (hu : P.underlying t = some .bool) (ho : o.op = .binOp op t x y u) (hx : ρ x = .bool a) (hy : ρ y = .bool b) (hc : boolOf op a b = some c) (W : World) :
    (execOp ρ o).run P W = .ok (.value (.bool c)) W := by
  unfold boolOf at hc
  cases op <;> first | (cases hc; done) | (have hc := Option.some.inj hc; subst hc; simp [execOp, ho, hx, hy, eqGuard, binOp, run_equal_bool W t a b hu])
theorem wl_eqB {ops rest : List Oper} {o : Oper} {A : World → Prop} {op : BinOp} {d : Nat} {t u : TypeId} {x y : Operand} {a b c : Bool} (hu : P.underlying t = some .bool) (hg : guardE ops N env o = some true) (hd : o.dst = some d) (ho : o.op = .binOp op t x y u)
    (hx : evO N env x = some (.bool a)) (hy : evO N env y = some (.bool b)) (hc : boolOf op a b = some c)
    (h : WL r n P N D ops Q rest ((d, .bool c) :: env) A) : WL r n P N D ops Q (o :: rest) env A :=
  wl_val hg hd (fun c e => by rw [ho] at e; cases e) (fun _ W hρ _ => boolBin_run hu ho (hρ _ _ hx) (hρ _ _ hy) hc W) h
theorem wq_eqB {ops rest : List Oper} {o : Oper} {A A2 : World → Prop} {R : Act → World → Prop} {op : BinOp} {d : Nat} {t u : TypeId} {x y : Operand} {a b c : Bool} (hu : P.underlying t = some .bool) (hg : guardE ops N env o = some true) (hd : o.dst = some d) (ho : o.op = .binOp op t x y u)
    (hx : evO N env x = some (.bool a)) (hy : evO N env y = some (.bool b)) (hc : boolOf op a b = some c)
    (h : WQ P N D ops A2 R rest ((d, .bool c) :: env) A) : WQ P N D ops A2 R (o :: rest) env A :=
  wq_val hg hd (fun c e => by rw [ho] at e; cases e) (fun _ W hρ _ => boolBin_run hu ho (hρ _ _ hx) (hρ _ _ hy) hc W) h
end
end Go.Am

/-! part 15 -/
namespace Go.Am
open Go Go.RowKit
/-- A bag: the marks of the ranges that have ended. -/
def bag (ds : List Nat) : Bx := ⟨0, 0, [], true, some (.grp (ds.map fun d => (d, markObj)))⟩
/-- A place of the list that tells nothing. -/
def gone : Bx := ⟨0, 0, [], false, none⟩
theorem bag_mem {ds : List Nat} {p : Nat × Obj} : p ∈ (bag ds).blk ↔ p.1 ∈ ds ∧ p.2 = markObj := by
  show p ∈ ds.map (fun d => (d, markObj)) ↔ _
  rw [List.mem_map]
  constructor
  · rintro ⟨d, hd, rfl⟩; exact ⟨hd, rfl⟩
  · rintro ⟨h1, h2⟩; exact ⟨p.1, h1, by rw [← h2]⟩
theorem bag_fst (ds : List Nat) : (bag ds).blk.map (·.1) = ds := by
  show (ds.map fun d => (d, markObj)).map (·.1) = ds
  simp [Function.comp_def]

/-- Two of the listed are put together: at k now stands what had been at k and at i. -/
theorem Hp.join {W0 W : World} {bxs : List Bx} (h : Hp W0 bxs W) {k i : Nat} (hne : k ≠ i) {B C E : Bx} (hk : bxs[k]? = some B) (hi : bxs[i]? = some C) (hE : E.blk = C.blk ++ B.blk) : Hp W0 ((bxs.set k E).set i gone) W := by
  have cases2 : ∀ {j : Nat} {X : Bx}, ((bxs.set k E).set i gone)[j]? = some X → X.blk = [] ∨ (j = k ∧ X = E) ∨ (j ≠ i ∧ j ≠ k ∧ bxs[j]? = some X) := fun {j X} hj => by
    rcases set_cases hj with ⟨_, rfl⟩ | ⟨h1, h2⟩
    · exact .inl rfl
    · rcases set_cases h2 with h3 | ⟨h3, h4⟩
      · exact .inr (.inl h3)
      · exact .inr (.inr ⟨h1, h3, h4⟩)
  have mem : ∀ {p : Nat × Obj}, p ∈ E.blk → ∃ m X, (m = k ∨ m = i) ∧ bxs[m]? = some X ∧ p ∈ X.blk := fun {p} hp => by
    rw [hE] at hp
    rcases List.mem_append.1 hp with hp | hp
    · exact ⟨i, C, .inr rfl, hi, hp⟩
    · exact ⟨k, B, .inl rfl, hk, hp⟩
  refine ⟨h.below, fun j X hj p hp => ?_, fun j X hj => ?_, fun j j' X Y hj hj' hjj p hp q hq => ?_⟩
  · rcases cases2 hj with e | ⟨_, rfl⟩ | ⟨_, _, h2⟩
    · rw [e] at hp; cases hp
    · obtain ⟨m, Z, _, h1, h2⟩ := mem hp
      exact h.own.cell m Z h1 p h2
    · exact h.own.cell j X h2 p hp
  · rcases cases2 hj with e | ⟨_, rfl⟩ | ⟨_, _, h2⟩
    · rw [e]; exact List.nodup_nil
    · rw [hE, List.map_append]
      refine List.nodup_append.2 ⟨h.own.nd i C hi, h.own.nd k B hk, fun a ha b hb e => ?_⟩
      obtain ⟨p, hp, rfl⟩ := List.mem_map.1 ha
      obtain ⟨q, hq, rfl⟩ := List.mem_map.1 hb
      exact h.own.apart i k C B hi hk (fun e => hne e.symm) p hp q hq e
    · exact h.own.nd j X h2
  · rcases cases2 hj with e | ⟨e1, rfl⟩ | ⟨h1, h2, h3⟩
    · rw [e] at hp; cases hp
    · rcases cases2 hj' with e | ⟨e2, rfl⟩ | ⟨h4, h5, h6⟩
      · rw [e] at hq; cases hq
      · exact absurd (e1.trans e2.symm) hjj
      · obtain ⟨m, Z, h7, h8, h9⟩ := mem hp
        exact h.own.apart m j' Z Y h8 h6 (by rcases h7 with rfl | rfl; exact fun e => h5 e.symm; exact fun e => h4 e.symm) p h9 q hq
    · rcases cases2 hj' with e | ⟨e2, rfl⟩ | ⟨h4, h5, h6⟩
      · rw [e] at hq; cases hq
      · obtain ⟨m, Z, h7, h8, h9⟩ := mem hq
        exact h.own.apart j m X Z h3 h8 (by rcases h7 with rfl | rfl; exact h2; exact h1) p hp q h9
      · exact h.own.apart j j' X Y h3 h6 hjj p hp q hq
/-- A mark goes into the bag. -/
theorem Hp.bagged {W0 W : World} {bxs : List Bx} (h : Hp W0 bxs W) (k i : Nat) {d : Nat} {ds : List Nat} (hk : nth bxs k = some (bag ds)) (hi : nth bxs i = some (rawD d)) :
    Hp W0 ((bxs.set k (bag (d :: ds))).set i gone) W := by
  rw [nth_eq] at hk hi
  exact h.join (fun e => by subst e; rw [hk] at hi; cases hi) hk hi rfl

/-- A mark is taken out of the bag, and its block turned. -/
theorem Hp.unbag {W0 W W' : World} {bxs : List Bx} (h : Hp W0 bxs W) (k : Nat) {d : Nat} {ds : List Nat} {o : Obj} (hk : nth bxs k = some (bag (d :: ds))) (hu : Upd W W' d o) : Hp W0 (bxs.set k (bag ds)) W' := by
  rw [nth_eq] at hk
  have hnd := h.own.nd k _ hk
  rw [bag_fst] at hnd
  obtain ⟨h2, h3⟩ := List.nodup_cons.1 hnd
  have hget : ∀ x, d ≠ x → W'.heap[x]? = W.heap[x]? := fun x hx => by rw [hu.heap, Array.getElem?_setIfInBounds]; rw [if_neg hx]
  refine h.turn hk (fun p hp => .inl ⟨p, bag_mem.2 ⟨List.mem_cons_of_mem _ (bag_mem.1 hp).1, (bag_mem.1 hp).2⟩, rfl⟩) (by rw [bag_fst]; exact h3) hu.os hu.tape hu.output (by rw [hu.heap, Array.size_setIfInBounds]; exact Nat.le_refl _) (fun p hp => ?_) (fun x hx _ => hget x (hx (d, markObj) (bag_mem.2 ⟨List.mem_cons_self .., rfl⟩)))
  rw [hget p.1 (fun e => h2 (e ▸ (bag_mem.1 hp).1))]
  exact (h.own.cell k _ hk p (bag_mem.2 ⟨List.mem_cons_of_mem _ (bag_mem.1 hp).1, (bag_mem.1 hp).2⟩)).1

section
variable {r : Option Nat} {n : Nat} {P : Program} {W0 : World} {N : Nat} {D : List Deferred} {Q : Exit → Act → World → Prop} {env : Env} {bxs : List Bx}
/-- At the end all marks are taken. -/
theorem ne_marks (k : Nat) {fn : Func} {X : Type} {val : X → Value} {Φ : X → Prop} {nb : X → List Bx} : ∀ (ds : List Nat) {bxs : List Bx}, nth bxs k = some (bag ds) →
    NE N [] (RetQ P fn W0 val Φ nb) .ret env (Hp W0 (bxs.set k (bag []))) → NE N (ds.map dmark) (RetQ P fn W0 val Φ nb) .ret env (Hp W0 bxs)
  | [], bxs, hk, h => by
    have : bxs.set k (bag []) = bxs := by
      rw [nth_eq] at hk
      apply List.ext_getElem?
      intro i
      by_cases e : i = k
      · subst e; rw [List.getElem?_set_self (List.getElem?_eq_some_iff.1 hk).1, hk]
      · rw [List.getElem?_set_ne (fun x => e x.symm)]
    rw [this] at h
    exact h
  | d :: ds, bxs, hk, h => .mk fun a W ha hd hp => by
    have hb : W.heap[d]? = some markObj := (hp.own.cell k _ (by rw [← nth_eq]; exact hk) (d, markObj) (bag_mem.2 ⟨List.mem_cons_self .., rfl⟩)).1
    refine .mk ?_
    show LeavesInM (Fw none) 0 P fn (ov env a).tmps _ (ov env a).defers .returning W
    rw [ov_defers, hd]
    refine ⟨by simp, .inl ⟨d, W.putObj d (.deferred none), rfl, run_takeDeferred hb, ?_⟩⟩
    have hp' : Hp W0 (bxs.set k (bag ds)) (W.putObj d (.deferred none)) := hp.unbag k hk ⟨rfl, rfl, rfl, rfl⟩
    have hk' : nth (bxs.set k (bag ds)) k = some (bag ds) := by
      rw [nth_eq] at hk ⊢
      exact List.getElem?_set_self (List.getElem?_eq_some_iff.1 hk).1
    have h' : NE N (ds.map dmark) (RetQ P fn W0 val Φ nb) .ret env (Hp W0 (bxs.set k (bag ds))) := ne_marks k ds hk' (by rw [List.set_set]; exact h)
    have := (h'.out { tmps := a.tmps, defers := ds.map dmark } _ ha rfl hp').out
    have e : LeavesInM (Fw none) 0 P fn (ov env { tmps := a.tmps, defers := ds.map dmark }).tmps (fun e W' => ∃ x, e = .returned (val x) ∧ Φ x ∧ Below W0.heap.size W0 W' ∧ NewBx W0 W' (nb x)) (ov env { tmps := a.tmps, defers := ds.map dmark }).defers .returning (W.putObj d (.deferred none)) := this
    rw [ov_defers] at e
    rw [ov_tmps env { tmps := a.tmps, defers := ds.map dmark } a rfl] at e
    exact e
/-- The bag filled. -/
theorem ne_bag (k i : Nat) {e : Exit} {d : Nat} {ds : List Nat} (hk : nth bxs k = some (bag ds)) (hi : nth bxs i = some (rawD d)) (h : NE N D Q e env (Hp W0 ((bxs.set k (bag (d :: ds))).set i gone))) : NE N D Q e env (Hp W0 bxs) := .mk fun a W ha hd hp =>
  h.out a W ha hd (hp.bagged k i hk hi)
theorem wc_bag (k i : Nat) {c : Code} {d : Nat} {ds : List Nat} (hk : nth bxs k = some (bag ds)) (hi : nth bxs i = some (rawD d)) (h : WC r n P N D c Q env (Hp W0 ((bxs.set k (bag (d :: ds))).set i gone))) : WC r n P N D c Q env (Hp W0 bxs) := .mk fun a W ha hd hp =>
  h.out a W ha hd (hp.bagged k i hk hi)
/-- An empty bag is laid at the list's end. -/
theorem Hp.newBag {W W0 : World} (h : Hp W0 bxs W) : Hp W0 (bxs ++ [bag []]) W := h.append (Below.refl _ _) (Own.one (fun p hp => by cases hp) List.nodup_nil)
theorem wc_newBag {c : Code} (h : WC r n P N D c Q env (Hp W0 (bxs ++ [bag []]))) : WC r n P N D c Q env (Hp W0 bxs) := .mk fun a W ha hd hp => h.out a W ha hd hp.newBag

/-! Loops whose deferred calls grow -/
structure LoopD (N : Nat) {X : Type} (D : X → List Deferred) (L : X → Env) (B : X → World → Prop) (Φ : X → Prop) (μ : X → Nat) (m : Nat) (a : Act) (W : World) : Prop where
  out : ∃ x, Φ x ∧ μ x < m ∧ Live N (D x) (L x) a ∧ B x W
theorem wc_loopD {c : Code} {X : Type} (Ds : X → List Deferred) (L : X → Env) (B : X → List Bx) (Φ : X → Prop) (μ : X → Nat) (x0 : X) (h0 : Φ x0) (hD : Ds x0 = D) (hL : liveB N env (L x0)) (nb : List Bx) (hB : bxs = B x0 ++ nb)
    (round : ∀ x, Φ x → WC r n P N (Ds x) c (Exit.then (LoopD N Ds L (fun x => Hp W0 (B x)) Φ μ (μ x)) Q) (L x) (Hp W0 (B x))) : WC r n P N D (.loop c) Q env (Hp W0 bxs) := .mk fun a W ha hd hp => by
  refine wpIn_loop_ghost (fun m a W => ∃ x, Φ x ∧ μ x = m ∧ Live N (Ds x) (L x) a ∧ Hp W0 (B x) W) (μ x0) ⟨x0, h0, rfl, hD ▸ live_of ha hd hL, by rw [hB] at hp; exact hp.take⟩ ?_
  rintro m a W ⟨x, hx, hm, hl, hp⟩
  have := (round x hx).out a W hl.size hl.defers hp
  rw [ov_same (fun p hp _ => hl.get p hp)] at this
  refine wpIn_mono this ?_
  intro e a' W' hq
  cases e with
  | normal =>
    obtain ⟨y, h1, h2, h3, h4⟩ := LoopD.out hq
    exact ⟨μ y, hm ▸ h2, y, h1, rfl, h3, h4⟩
  | _ => exact hq
theorem ne_loopD {X : Type} {Ds : X → List Deferred} {L : X → Env} {B : X → List Bx} {Φ : X → Prop} {μ : X → Nat} {m : Nat} (x : X) (hx : Φ x) (hm : μ x < m) (hD : D = Ds x) (hL : liveB N env (L x)) (s : List Nat) (hs : s.Nodup) (hp : pick bxs s = some (B x)) :
    NE N D (Exit.then (LoopD N Ds L (fun x => Hp W0 (B x)) Φ μ m) Q) .normal env (Hp W0 bxs) := .mk fun _ _ ha hd hh =>
  ⟨x, hx, hm, live_of ha (hd.trans hD) hL, hh.pick s hs hp⟩
end
end Go.Am

/-! part 16 -/
namespace Go.Am
open Go Go.RowKit

/-- The table of zero values. -/
inductive ZOk (P : Program) : List (Nat × Value) → Prop
  | nil : ZOk P []
  | cons {t : Nat} {z : Value} {l : List (Nat × Value)} (h : ∀ W, (zeroValue t).run P W = .ok z W) (r : ZOk P l) : ZOk P ((t, z) :: l)
def findZ : List (Nat × Value) → Nat → Option Value
  | [], _ => none
  | (u, z) :: r, t => if Nat.beq u t then some z else findZ r t
theorem ZOk.get {P : Program} {t : Nat} {z : Value} : ∀ {l : List (Nat × Value)}, ZOk P l → findZ l t = some z → ∀ W, (zeroValue t).run P W = .ok z W
  | [], _, h => by simp [findZ] at h
  | (u, y) :: r, .cons h h', hf => by
    unfold findZ at hf
    by_cases e : Nat.beq u t = true
    · rw [if_pos e] at hf
      cases hf
      have : u = t := Nat.eq_of_beq_eq_true e
      subst this
      exact h
    · rw [if_neg e] at hf
      exact ZOk.get h' hf

section
variable {r : Option Nat} {n : Nat} {P : Program} {W0 : World} {N : Nat} {D : List Deferred} {ops : List Oper} {Q : Exit → Act → World → Prop} {o : Oper} {rest : List Oper} {env : Env} {bxs : List Bx} {A A2 : World → Prop} {R : Act → World → Prop}
theorem wl_allocZ {Z : List (Nat × Value)} {d : Nat} {t : TypeId} {z : Value} (hZ : ZOk P Z) (hg : guardE ops N env o = some true) (hd : o.dst = some d) (ho : o.op = .alloc t) (hz : findZ Z t = some z)
    (h : ∀ b, WL r n P N D ops Q rest ((d, .pointer (some ⟨b, 0, none⟩)) :: env) (Hp W0 (bxs ++ [⟨b, t, z.cells.toList, true, none⟩]))) : WL r n P N D ops Q (o :: rest) env (Hp W0 bxs) :=
  wl_alloc hg hd ho (hZ.get hz) h
theorem wl_buildZ {Z : List (Nat × Value)} {T : Tbl} {i : TI} {d : Nat} {t : TypeId} {parts : Array (Nat × Operand)} {vs : List (Nat × Value)} {z : Value} {c : List Value} (hZ : ZOk P Z) (hT : okB P T = true) (hg : guardE ops N env o = some true) (hd : o.dst = some d) (ho : o.op = .build t parts) (ht : find T t = some i) (hk : i.kind = 4)
    (hz : findZ Z t = some z) (hp : evParts (evO N env) parts.toList = some vs) (hc : fillL (placeF i.fields) z.cells.toList vs = some c)
    (h : WL r n P N D ops Q rest ((d, .agg c.toArray) :: env) A) : WL r n P N D ops Q (o :: rest) env A :=
  wl_build z hT hg hd ho ht hk (hZ.get hz) hp hc h
theorem wq_buildZ {Z : List (Nat × Value)} {T : Tbl} {i : TI} {d : Nat} {t : TypeId} {parts : Array (Nat × Operand)} {vs : List (Nat × Value)} {z : Value} {c : List Value} (hZ : ZOk P Z) (hT : okB P T = true) (hg : guardE ops N env o = some true) (hd : o.dst = some d) (ho : o.op = .build t parts) (ht : find T t = some i) (hk : i.kind = 4)
    (hz : findZ Z t = some z) (hp : evParts (evO N env) parts.toList = some vs) (hc : fillL (placeF i.fields) z.cells.toList vs = some c)
    (h : WQ P N D ops A2 R rest ((d, .agg c.toArray) :: env) A) : WQ P N D ops A2 R (o :: rest) env A :=
  wq_build z hT hg hd ho ht hk (hZ.get hz) hp hc h
theorem wl_buildRowZ {Z : List (Nat × Value)} {T : Tbl} {i : TI} {d : Nat} {t : TypeId} {len : Nat} {parts : Array (Nat × Operand)} {vs : List (Nat × Value)} {z : Value} {c : List Value} (hZ : ZOk P Z) (hT : okB P T = true) (hg : guardE ops N env o = some true) (hd : o.dst = some d) (ho : o.op = .buildSlice t len parts) (ht : find T t = some i) (hk : i.kind = 2)
    (hz : findZ Z i.elem = some z) (hp : evParts (evO N env) parts.toList = some vs) (hzs : i.elemSize = z.cells.size) (h24 : Nat.ble (len * i.elemSize) (2 ^ 24) = true) (h0 : Nat.beq (len * i.elemSize) 0 = false)
    (hc : fillL (placeS i.elemSize) (repL z.cells.toList len) vs = some c)
    (h : ∀ b, WL r n P N D ops Q rest ((d, .slice (some ⟨b, 0, none⟩) len len) :: env) (Hp W0 (bxs ++ [⟨b, i.elem, c, true, none⟩]))) : WL r n P N D ops Q (o :: rest) env (Hp W0 bxs) :=
  wl_buildRow z hT hg hd ho ht hk (hZ.get hz) hp hzs h24 h0 hc h

/-! Slices that grow -/
/-- A slice of the frame's own: nil, or at the beginning of a block of its own. -/
structure Vec where
  p : Option Nat
  cap : Nat
  junk : List Value
  deriving Inhabited
def Vec.empty : Vec := ⟨none, 0, []⟩
def Vec.val (V : Vec) (n : Nat) : Value := match V.p with
  | none => .slice none 0 0
  | some g => .slice (some ⟨g, 0, none⟩) n V.cap
def Vec.bx (V : Vec) (e : TypeId) (xs : List Value) : Bx := match V.p with
  | none => gone
  | some g => ⟨g, e, xs ++ V.junk, true, none⟩
structure Vec.OK (V : Vec) (size n : Nat) (xs : List Value) : Prop where
  len : xs.length = n * size
  nil : V.p = none → n = 0
  cap : V.p ≠ none → n ≤ V.cap ∧ V.cap ≤ maxLen ∧ xs.length + V.junk.length = V.cap * size
theorem Vec.OK.empty (size : Nat) : Vec.empty.OK size 0 [] := ⟨by simp, fun _ => rfl, fun h => absurd rfl h⟩
/-- What is to be known of a slice's type for append. -/
structure VecTy (P : Program) (t e : TypeId) (size bytes : Nat) (z : Value) : Prop where
  ht : P.underlying t = some (.slice e)
  hz : (P.info? e).bind (·.zero) = some z
  hs : (P.info? e).map (·.size) = some size
  hb : (P.info? e).map (·.bytes) = some bytes
  hzs : z.cells.size = size
  pos : 0 < size

theorem VecTy.hi {t e : TypeId} {size bytes : Nat} {z : Value} (h : VecTy P t e size bytes z) : ∃ i, P.info? e = some i ∧ i.zero = some z ∧ i.size = size ∧ i.bytes = bytes := by
  have h1 := h.hz; have h2 := h.hs; have h3 := h.hb
  cases hi : P.info? e with
  | none => rw [hi] at h1; cases h1
  | some i =>
    rw [hi] at h1 h2 h3
    exact ⟨i, rfl, h1, Option.some.inj h2, Option.some.inj h3⟩

theorem Hp.appendV {t e ty : TypeId} {size bytes : Nat} {z : Value} (hty : VecTy P t e size bytes z) {W : World} (h : Hp W0 bxs W) (k : Nat) {V : Vec} {n m c : Nat} {xs news : List Value} {a : Addr} (hk : nth bxs k = some (V.bx e xs)) (hV : V.OK size n xs)
    (hl : news.length = m * size) (hnews : ∀ j u, news[j]? = some u → W.cell? (a.add j) = some u) (h1 : ∀ u ∈ news, u.oneCell' = true) (h63 : n + m ≤ maxLen) (hbytes : (n + m) * bytes ≤ 140737488355328) :
    ∃ (V' : Vec) (W' : World), (Builtin.append_ #[t, t] ty #[V.val n, .slice (some a) m c]).run P W = .ok (V'.val (n + m)) W' ∧ V'.OK size (n + m) (xs ++ news) ∧ Hp W0 (bxs.set k (V'.bx e (xs ++ news))) W' ∧ (V'.p = none → m = 0) := by
  rw [nth_eq] at hk
  obtain ⟨i, hi, hz, hsz, hby⟩ := hty.hi
  have hown : W.ownsRow W0.heap.size e size (V.val n) n xs := by
    refine ⟨hV.len, ?_⟩
    obtain ⟨p, cap, junk⟩ := V
    cases p with
    | none => exact .inl ⟨rfl, hV.nil rfl⟩
    | some g =>
      obtain ⟨h3, h4, h5⟩ := hV.cap (by simp)
      have hb : W.heap[g]? = some (.cells (xs ++ junk).toArray e (0, 0)) ∧ W0.heap.size ≤ g := h.at_ k _ hk rfl
      refine .inr ⟨g, cap, _, rfl, hb.2, hb.1, h3, h4, by simpa using h5, ?_⟩
      rw [← hV.len]
      simp
  obtain ⟨v', W', hr, hown', hgrow, hnil, hat⟩ := run_append_own_at (P := P) W W0.heap.size t ty e i z size bytes hty.ht hi hz hsz hby hty.hzs hty.pos (V.val n) n xs hown a m c news hl hnews h1 h63 hbytes h.below.size
  have hoth : ∀ (V' : Vec), v' = V'.val (n + m) → ∀ x, (∀ q ∈ (V.bx e xs).blk, q.1 ≠ x) → x < W.heap.size → W'.heap[x]? = W.heap[x]? := fun V' _ x hx hlt => by
    refine hgrow.block x hlt ?_
    intro he
    obtain ⟨p, cap, junk⟩ := V
    cases p with
    | none => simp [Vec.val, Value.ownBlock] at he
    | some g =>
      simp [Vec.val, Value.ownBlock] at he
      exact hx (g, _) (List.mem_cons_self ..) he.symm
  rcases hown'.2 with ⟨hv, hn⟩ | ⟨g, cap, cur, hv, hbg, hg, hnc, hcm, hcs, htake⟩
  · refine ⟨Vec.empty, W', by rw [hr, hv]; rfl, ⟨hown'.1, fun _ => hn, fun h => absurd rfl h⟩, ?_, fun _ => by omega⟩
    exact h.turn hk (fun p hp => by cases hp) List.nodup_nil hgrow.os hgrow.tape hgrow.output hgrow.size (fun p hp => by cases hp) (hoth Vec.empty hv)
  · have hcur : cur.toList = (xs ++ news) ++ cur.toList.drop ((n + m) * size) := by
      conv => lhs; rw [← List.take_append_drop ((n + m) * size) cur.toList]
      rw [htake]
    refine ⟨⟨some g, cap, cur.toList.drop ((n + m) * size)⟩, W', by rw [hr, hv]; rfl, ⟨hown'.1, fun h => by simp at h, fun _ => ⟨hnc, hcm, ?_⟩⟩, ?_, fun h => by simp at h⟩
    · have := congrArg List.length hcur
      rw [List.length_append] at this
      simp only [Array.length_toList] at this
      rw [← this, hcs]
    · refine h.turn hk (fun p hp => ?_) (List.nodup_cons.2 ⟨List.not_mem_nil, List.nodup_nil⟩) hgrow.os hgrow.tape hgrow.output hgrow.size (fun p hp => ?_) (hoth ⟨some g, cap, []⟩ hv)
      · obtain rfl := List.mem_singleton.1 hp
        show (∃ q ∈ (V.bx e xs).blk, q.1 = g) ∨ W.heap.size ≤ g
        rcases hat with hat | hat
        · left
          obtain ⟨p, cap', junk⟩ := V
          rw [hv] at hat
          cases p with
          | none => simp [Vec.val, Value.ownBlock] at hat
          | some g' =>
            simp [Vec.val, Value.ownBlock] at hat
            exact ⟨(g', _), List.mem_cons_self .., hat.symm⟩
        · right
          rw [hv] at hat
          simp [Value.ownBlock] at hat
          omega
      · obtain rfl := List.mem_singleton.1 hp
        show W'.heap[g]? = some (.cells ((xs ++ news) ++ cur.toList.drop ((n + m) * size)).toArray e (0, 0))
        rw [← hcur]
        exact hg

/-- An append step; the old slice's content stands at k; the cells appended are known. -/
theorem wl_append (k : Nat) {d : Nat} {t e : TypeId} {size bytes : Nat} {z : Value} (hty : VecTy P t e size bytes z) {c : Call} {s x : Operand} {V : Vec} {m cp len : Nat} {xs news : List Value} {a : Addr}
    (hg : guardE ops N env o = some true) (hd : o.dst = some d) (ho : o.op = .call c) (hc : c.callee = .builtin .append) (ha : c.args = #[s, x]) (hat : c.argTypes = #[t, t])
    (hs : evO N env s = some (V.val len)) (hx : evO N env x = some (.slice (some a) m cp)) (hk : nth bxs k = some (V.bx e xs)) (hV : V.OK size len xs)
    (hl : news.length = m * size) (hnews : ∀ W, Hp W0 bxs W → ∀ j u, news[j]? = some u → W.cell? (a.add j) = some u) (h1 : ∀ u ∈ news, u.oneCell' = true) (h63 : len + m ≤ maxLen) (hbytes : (len + m) * bytes ≤ 140737488355328)
    (h : ∀ V' : Vec, V'.OK size (len + m) (xs ++ news) → (V'.p = none → m = 0) → WL r n P N D ops Q rest ((d, V'.val (len + m)) :: env) (Hp W0 (bxs.set k (V'.bx e (xs ++ news))))) : WL r n P N D ops Q (o :: rest) env (Hp W0 bxs) := .mk fun act W h2 h3 hp => by
  refine wl_step hg h2 (fun c e => by rw [ho] at e; cases e) ?_
  obtain ⟨V', W', hr, hV', hp', hn'⟩ := hp.appendV (ty := o.type) (c := cp) hty k hk hV hl (hnews W hp) h1 h63 hbytes
  have e1 : c.args.map (ov env act).eval = #[V.val len, .slice (some a) m cp] := by rw [ha]; simp [evO_sound h2 _ _ hs, evO_sound h2 _ _ hx]
  have : (execOp (ov env act).eval o).run P W = .ok (.value (V'.val (len + m))) W' := by
    simp only [execOp, ho, resolve, hc, invoke, builtin, e1, hat, Sem.run_bind, Sem.run_pure, Result.andThen_ok, hr]
  rw [this]
  simp only [Oper.uponIn, hd]
  exact (h V' hV' hn').out act W' h2 h3 hp'
/-- .. of a row that was just built (at j). -/
theorem wl_appendBx (k j : Nat) {d : Nat} {t e : TypeId} {size bytes : Nat} {z : Value} (hty : VecTy P t e size bytes z) {c : Call} {s x : Operand} {V : Vec} {m cp len : Nat} {xs : List Value} {B : Bx}
    (hg : guardE ops N env o = some true) (hd : o.dst = some d) (ho : o.op = .call c) (hc : c.callee = .builtin .append) (ha : c.args = #[s, x]) (hat : c.argTypes = #[t, t])
    (hj : nth bxs j = some B) (hon : B.row = true) (hx : evO N env x = some (.slice (some ⟨B.b, 0, none⟩) m cp))
    (hs : evO N env s = some (V.val len)) (hk : nth bxs k = some (V.bx e xs)) (hV : V.OK size len xs)
    (hl : B.cells.length = m * size) (h1 : allOne B.cells = true) (h63 : len + m ≤ maxLen) (hbytes : (len + m) * bytes ≤ 140737488355328)
    (h : ∀ V' : Vec, V'.OK size (len + m) (xs ++ B.cells) → (V'.p = none → m = 0) → WL r n P N D ops Q rest ((d, V'.val (len + m)) :: env) (Hp W0 (bxs.set k (V'.bx e (xs ++ B.cells))))) : WL r n P N D ops Q (o :: rest) env (Hp W0 bxs) := by
  refine wl_append k hty hg hd ho hc ha hat hs hx hk hV hl (fun W hp i u hu => ?_) ?_ h63 hbytes h
  · rw [nth_eq] at hj
    obtain ⟨h5, h6⟩ := Bx.row_on hon
    have := (hp.at_ _ _ hj h5).1
    rw [h6] at this
    rw [Addr.add_none, cell_block this]
    simpa using hu
  · have : ∀ (l : List Value), allOne l = true → ∀ u ∈ l, u.oneCell' = true := by
      intro l
      induction l with
      | nil => intro _ u hu; cases hu
      | cons v l ih =>
        intro hl u hu
        unfold allOne at hl
        split at hl
        · rename_i hv
          rcases List.mem_cons.1 hu with rfl | hu
          · cases u <;> first | rfl | (simp [one] at hv; done)
          · exact ih hl u hu
        · cases hl
    exact this _ h1
end
end Go.Am

/-! part 17 -/
namespace Go.Am
open Go Go.RowKit
section
variable {r : Option Nat} {n : Nat} {P : Program} {W0 : World} {N : Nat} {D : List Deferred} {ops : List Oper} {Q : Exit → Act → World → Prop} {o : Oper} {rest : List Oper} {env : Env} {bxs : List Bx} {A A2 : World → Prop} {R : Act → World → Prop}

theorem sliceBounds_run (len cap : Nat) {lo hi : Option Value} {l h : Nat} (hl : lo = none ∧ l = 0 ∨ ∃ k, lo = some (.int k (l : Nat))) (hh : hi = none ∧ h = len ∨ ∃ k, hi = some (.int k (h : Nat))) (h1 : l ≤ h) (h2 : h ≤ cap) (W : World) :
    (Instr.sliceBounds true len cap lo hi none).run P W = .ok (l, h, cap) W := by
  rcases hl with ⟨rfl, rfl⟩ | ⟨k, rfl⟩ <;> rcases hh with ⟨rfl, rfl⟩ | ⟨k', rfl⟩ <;> simp [Instr.sliceBounds, Instr.sliceBound, asIntOf, h1, h2]
theorem slice_run {T : Tbl} {i : TI} {ρ : Operand → Value} {t : TypeId} {x : Operand} {lo hi : Option Operand} {a : Option Addr} {len cap l h : Nat} (hT : okB P T = true) (ho : o.op = .slice t x lo hi none) (ht : find T t = some i) (hk : i.kind = 2) (hx : ρ x = .slice a len cap)
    (hl : lo.map ρ = none ∧ l = 0 ∨ ∃ k, lo.map ρ = some (.int k (l : Nat))) (hh : hi.map ρ = none ∧ h = len ∨ ∃ k, hi.map ρ = some (.int k (h : Nat))) (h1 : l ≤ h) (h2 : h ≤ cap) (W : World) :
    (execOp ρ o).run P W = .ok (.value (.slice (if cap = l then a else a.map (·.add (l * i.elemSize))) (h - l) (cap - l))) W := by
  obtain ⟨hu, hs⟩ := row_kind2 (find_row hT ht) hk
  have hb := sliceBounds_run (P := P) len cap hl hh h1 h2 W
  simp only [execOp, ho, Instr.sliceAt, Sem.run_bind, run_underlying hu, Result.andThen_ok, Instr.slice, hx, Option.map_none, hb, sizeB_run hs, Sem.run_pure]
/-- x[:h] -/
theorem wl_slice_h {T : Tbl} {i : TI} {d : Nat} {t : TypeId} {x y : Operand} {k : IntKind} {a : Option Addr} {len cap : Nat} {z : Int} (h : Nat) (hT : okB P T = true) (hg : guardE ops N env o = some true) (hd : o.dst = some d) (ho : o.op = .slice t x none (some y) none)
    (ht : find T t = some i) (hk : i.kind = 2) (hx : evO N env x = some (.slice a len cap)) (hy : evO N env y = some (.int k z)) (hz : z = h) (h2 : h ≤ cap)
    (hn : WL r n P N D ops Q rest ((d, .slice a h cap) :: env) A) : WL r n P N D ops Q (o :: rest) env A :=
  wl_val hg hd (fun c e => by rw [ho] at e; cases e) (fun ρ W hρ _ => by
    subst hz
    have := slice_run (P := P) (l := 0) (h := h) hT ho ht hk (hρ _ _ hx) (.inl ⟨rfl, rfl⟩) (.inr ⟨k, by rw [Option.map_some, hρ _ _ hy]⟩) (Nat.zero_le _) h2 W
    rw [this]
    have e : (if cap = 0 then a else a.map (·.add (0 * i.elemSize))) = a := by
      split
      · rfl
      · cases a with
        | none => rfl
        | some a => simp [Addr.add]
    rw [e]; rfl) hn
/-- x[l:h], x a slice of some block. -/
theorem wl_slice_lh {T : Tbl} {i : TI} {d : Nat} {t : TypeId} {x y y' : Operand} {k k' : IntKind} {b off : Nat} {len cap : Nat} {z z' : Int} (l h : Nat) (hT : okB P T = true) (hg : guardE ops N env o = some true) (hd : o.dst = some d) (ho : o.op = .slice t x (some y') (some y) none)
    (ht : find T t = some i) (hk : i.kind = 2) (hx : evO N env x = some (.slice (some ⟨b, off, none⟩) len cap)) (hy' : evO N env y' = some (.int k' z')) (hy : evO N env y = some (.int k z)) (hz' : z' = l) (hz : z = h) (h1 : l ≤ h) (h2 : h ≤ cap)
    (hn : WL r n P N D ops Q rest ((d, .slice (some ⟨b, if cap = l then off else off + l * i.elemSize, none⟩) (h - l) (cap - l)) :: env) A) : WL r n P N D ops Q (o :: rest) env A :=
  wl_val hg hd (fun c e => by rw [ho] at e; cases e) (fun ρ W hρ _ => by
    subst hz
    subst hz'
    have := slice_run (P := P) (l := l) (h := h) hT ho ht hk (hρ _ _ hx) (.inr ⟨k', by rw [Option.map_some, hρ _ _ hy']⟩) (.inr ⟨k, by rw [Option.map_some, hρ _ _ hy]⟩) h1 h2 W
    rw [this]
    have e : (if cap = l then some (⟨b, off, none⟩ : Addr) else (some (⟨b, off, none⟩ : Addr)).map (·.add (l * i.elemSize))) = some ⟨b, if cap = l then off else off + l * i.elemSize, none⟩ := by
      split
      · rfl
      · simp [Addr.add_none]
    rw [e]) hn
/-- x[l:] -/
theorem wl_slice_l {T : Tbl} {i : TI} {d : Nat} {t : TypeId} {x y' : Operand} {k' : IntKind} {b off : Nat} {len cap : Nat} {z' : Int} (l : Nat) (hT : okB P T = true) (hg : guardE ops N env o = some true) (hd : o.dst = some d) (ho : o.op = .slice t x (some y') none none)
    (ht : find T t = some i) (hk : i.kind = 2) (hx : evO N env x = some (.slice (some ⟨b, off, none⟩) len cap)) (hy' : evO N env y' = some (.int k' z')) (hz' : z' = l) (h1 : l ≤ len) (h2 : len ≤ cap)
    (hn : WL r n P N D ops Q rest ((d, .slice (some ⟨b, if cap = l then off else off + l * i.elemSize, none⟩) (len - l) (cap - l)) :: env) A) : WL r n P N D ops Q (o :: rest) env A :=
  wl_val hg hd (fun c e => by rw [ho] at e; cases e) (fun ρ W hρ _ => by
    subst hz'
    have := slice_run (P := P) (l := l) (h := len) hT ho ht hk (hρ _ _ hx) (.inr ⟨k', by rw [Option.map_some, hρ _ _ hy']⟩) (.inl ⟨rfl, rfl⟩) h1 h2 W
    rw [this]
    have e : (if cap = l then some (⟨b, off, none⟩ : Addr) else (some (⟨b, off, none⟩ : Addr)).map (·.add (l * i.elemSize))) = some ⟨b, if cap = l then off else off + l * i.elemSize, none⟩ := by
      split
      · rfl
      · simp [Addr.add_none]
    rw [e]) hn

/-! Zeros appended to nil -/
theorem run_append_zeros {W : World} {t u ty e : TypeId} {size bytes : Nat} {z : Value} (hty : VecTy P t e size bytes z) {ku : IntKind} (hu : P.underlying u = some (.int ku)) (m : Nat) (h0 : 0 < m) (hb : m * bytes ≤ 140737488355328) (h63 : m ≤ maxLen) :
    (Builtin.append_ #[t, u] ty #[.slice none 0 0, .int .i64 (m : Nat)]).run P W =
      .ok (.slice (some ⟨W.heap.size, 0, none⟩) m (grownCap W m 0 e)) (W.drew.alloc (.cells (Builtin.zeroCells z.cells m ++ Builtin.zeroCells z.cells (grownCap W m 0 e - m)) e)) := by
  obtain ⟨i, hi, hz, hsz, hby⟩ := hty.hi
  have hs := hty.pos
  subst hsz; subst hby
  have hn : m ≠ 0 := by omega
  have hw : IntKind.i64.wrap (m : Nat) = (m : Int) := wrap_id (by omega) (by simp only [maxLen] at h63; omega)
  have h63' : ¬ (9223372036854775807 < (m : Int)) := by simp only [maxLen] at h63; omega
  have h48 : ¬ ((281474976710656 : Int) < (m : Int) * (i.bytes : Int)) := by
    have : (m : Int) * (i.bytes : Int) = ((m * i.bytes : Nat) : Int) := by simp
    rw [this]; omega
  have h48' : ¬ (281474976710656 < Builtin.nextslicecap m 0 * i.bytes) := by rw [nextslicecap_zero h0]; omega
  have hms : ¬ (m * i.size = 0) := by have := Nat.mul_pos h0 hs; omega
  have hm0 : ¬ ((m : Int) < 0) := by omega
  simp [Builtin.append_, run_underlying hty.ht, run_underlying hu, sizeOf, typeInfo, zeroValue, hi, hz, hn, hw, h63', h48, h48', hm0, asInt, asIntOf, Question.forced, run_firstCells_none, newRow, grownCap]
  exact fun h => absurd h hms

theorem zeroCells_toList (z : Array Value) (m : Nat) : (Builtin.zeroCells z m).toList = repL z.toList m := by
  unfold Builtin.zeroCells
  exact zeros_eq z m z.size rfl
theorem repL_append (z : List Value) : ∀ m k, repL z m ++ repL z k = repL z (m + k)
  | 0, k => by simp [repL]
  | m + 1, k => by
    rw [show m + 1 + k = (m + k) + 1 by omega]
    show (z ++ repL z m) ++ repL z k = z ++ repL z (m + k)
    rw [List.append_assoc, repL_append z m k]
/-- append(s, make([]E, m)...), s nil -/
theorem wl_appendZeros {d : Nat} {t u e : TypeId} {size bytes : Nat} {z : Value} (hty : VecTy P t e size bytes z) {ku : IntKind} (hu : P.underlying u = some (.int ku)) {c : Call} {s x : Operand} (m : Nat) {zi : Int}
    (hg : guardE ops N env o = some true) (hd : o.dst = some d) (ho : o.op = .call c) (hc : c.callee = .builtin .append) (ha : c.args = #[s, x]) (hat : c.argTypes = #[t, u])
    (hs : evO N env s = some (.slice none 0 0)) (hx : evO N env x = some (.int .i64 zi)) (hzi : zi = m) (h0 : 0 < m) (h63 : m ≤ maxLen) (hbytes : m * bytes ≤ 140737488355328)
    (h : ∀ V : Vec, V.OK size m (repL z.cells.toList m) → V.p ≠ none → V.junk = repL z.cells.toList (V.cap - m) → WL r n P N D ops Q rest ((d, V.val m) :: env) (Hp W0 (bxs ++ [V.bx e (repL z.cells.toList m)]))) : WL r n P N D ops Q (o :: rest) env (Hp W0 bxs) := .mk fun act W h2 h3 hp => by
  refine wl_step hg h2 (fun c e => by rw [ho] at e; cases e) ?_
  subst hzi
  have hr := run_append_zeros (P := P) (W := W) (ty := o.type) hty hu m h0 hbytes h63
  have e1 : c.args.map (ov env act).eval = #[.slice none 0 0, .int .i64 (m : Nat)] := by rw [ha]; simp [evO_sound h2 _ _ hs, evO_sound h2 _ _ hx]
  obtain ⟨g, hgc⟩ : ∃ g, grownCap W m 0 e = g := ⟨_, rfl⟩
  have hge : m ≤ g := hgc ▸ grownCap_ge W m 0 e
  have hle : g ≤ maxLen := hgc ▸ grownCap_le_maxLen W m 0 e h63
  rw [hgc] at hr
  have : (execOp (ov env act).eval o).run P W = .ok (.value (.slice (some ⟨W.heap.size, 0, none⟩) m g)) (W.drew.alloc (.cells (Builtin.zeroCells z.cells m ++ Builtin.zeroCells z.cells (g - m)) e)) := by
    simp only [execOp, ho, resolve, hc, invoke, builtin, e1, hat, Sem.run_bind, Sem.run_pure, Result.andThen_ok, hr]
  rw [this]
  simp only [Oper.uponIn, hd]
  have hlen : ∀ k, (repL z.cells.toList k).length = k * size := fun k => by rw [repL_length]; simp [hty.hzs]
  refine (h ⟨some W.heap.size, g, repL z.cells.toList (g - m)⟩ ⟨hlen m, (fun h => by cases h), fun _ => ⟨hge, hle, ?_⟩⟩ (by simp) rfl).out act _ h2 h3 ?_
  · show (repL z.cells.toList m).length + (repL z.cells.toList (g - m)).length = g * size
    rw [hlen, hlen, ← Nat.add_mul]; congr 1; omega
  · have hp2 : Hp W0 bxs W.drew := hp.grow ⟨rfl, rfl, rfl, Nat.le_refl _, fun _ _ => rfl⟩
    have hp3 := hp2.alloc e (repL z.cells.toList m ++ repL z.cells.toList (g - m))
    have e2 : (Builtin.zeroCells z.cells m ++ Builtin.zeroCells z.cells (g - m)) = (repL z.cells.toList m ++ repL z.cells.toList (g - m)).toArray := by
      apply Array.toList_inj.1
      simp [zeroCells_toList]
    rw [e2]
    exact hp3

/-! make([]E, n) -/
theorem makeSlice_run {ρ : Operand → Value} {W : World} {t e : TypeId} {size bytes : Nat} {z : Value} (hty : VecTy P t e size bytes z) {x y : Operand} (m : Nat) (ho : o.op = .makeSlice t x y) (hx : ρ x = .int .i64 (m : Nat)) (hy : ρ y = .int .i64 (m : Nat)) (h63 : m ≤ maxLen) (hb : m * bytes ≤ 140737488355328) :
    (execOp ρ o).run P W = .ok (.value (.slice (some ⟨W.heap.size, 0, none⟩) m m)) (W.alloc (.cells (repL z.cells.toList m).toArray e)) := by
  obtain ⟨i, hi, hz, hsz, hby⟩ := hty.hi
  subst hsz; subst hby
  have hw : IntKind.i64.wrap (m : Nat) = (m : Int) := wrap_id (by omega) (by simp only [maxLen] at h63; omega)
  have h48 : ¬ ((281474976710656 : Int) < (i.bytes : Int) * (m : Int)) := by
    have : (i.bytes : Int) * (m : Int) = ((m * i.bytes : Nat) : Int) := by rw [Nat.mul_comm]; simp
    rw [this]; omega
  have h0 : ¬ ((m : Int) < 0) := by omega
  have hz' : ((Array.range (m * i.size)).map (z.cells[· % z.cells.size]!)) = (repL z.cells.toList m).toArray := by
    apply Array.toList_inj.1
    rw [zeros_eq _ _ _ hty.hzs.symm]
  by_cases hm : m = 0
  · subst hm
    simp [execOp, ho, Instr.makeSlice, run_underlying hty.ht, hx, hy, asInt, asIntOf, typeInfo, hi, sizeOf, newRow, repL]
    have : IntKind.i64.wrap 0 = 0 := rfl
    have e0 : Array.map (fun _ : Nat => (default : Value)) (Array.range 0) = #[] := by apply Array.toList_inj.1; simp
    simp [this, e0]
  · have hms : ¬ (m * i.size = 0) := by have := Nat.mul_pos (show 0 < m by omega) hty.pos; omega
    simp only [execOp, ho, Instr.makeSlice, Sem.run_bind, run_underlying hty.ht, hx, hy, asInt, asIntOf, Sem.run_pure, Result.andThen_ok, typeInfo, hw]
    simp [h48, h0, run_askRoom, sizeOf, typeInfo, hi, zeroValue, hz, newRow]
    rw [if_neg hms, ← hz']
theorem wl_makeSlice {d : Nat} {t e : TypeId} {size bytes : Nat} {z : Value} (hty : VecTy P t e size bytes z) {x y : Operand} (m : Nat) {zx zy : Int}
    (hg : guardE ops N env o = some true) (hd : o.dst = some d) (ho : o.op = .makeSlice t x y)
    (hx : evO N env x = some (.int .i64 zx)) (hy : evO N env y = some (.int .i64 zy)) (hzx : zx = m) (hzy : zy = m) (h63 : m ≤ maxLen) (hb : m * bytes ≤ 140737488355328)
    (h : ∀ b, WL r n P N D ops Q rest ((d, .slice (some ⟨b, 0, none⟩) m m) :: env) (Hp W0 (bxs ++ [⟨b, e, repL z.cells.toList m, true, none⟩]))) : WL r n P N D ops Q (o :: rest) env (Hp W0 bxs) := .mk fun act W h2 h3 hp => by
  refine wl_step hg h2 (fun c e => by rw [ho] at e; cases e) ?_
  subst hzx; subst hzy
  rw [makeSlice_run (P := P) (W := W) hty m ho (evO_sound h2 _ _ hx) (evO_sound h2 _ _ hy) h63 hb]
  simp only [Oper.uponIn, hd]
  exact (h W.heap.size).out act _ h2 h3 (hp.alloc e _)
end
end Go.Am
