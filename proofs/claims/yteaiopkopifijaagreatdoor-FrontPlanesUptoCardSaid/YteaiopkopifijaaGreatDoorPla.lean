/-
  Lemmas that the theorem frontPlanes_upto_card needs (part 1 of 1).
-/
import Derived.Test.YteaiopkopifijaaGreatDoorMee
import Derived.Lib.AppendZerosOnto
import Derived.Laws.AppendOwn
namespace Go.Am
open Go Go.RowKit
section
variable {r : Option Nat} {n : Nat} {P : Program} {W0 : World} {N : Nat} {D : List Deferred} {ops : List Oper} {Q : Exit → Act → World → Prop} {o : Oper} {rest : List Oper} {env : Env} {bxs : List Bx}
end
end Go.Am
namespace Go.Am
open Go Go.RowKit
section
variable {r : Option Nat} {n : Nat} {P : Program} {N : Nat} {D : List Deferred} {ops : List Oper} {Q : Exit → Act → World → Prop} {o : Oper} {rest : List Oper} {env : Env} {A A2 : World → Prop} {R : Act → World → Prop}
theorem wl_callA {c : Call} {f : Operand} {g d : Nat} {capt vs : List Value} {v : Value} (hG : Grows A)
    (hg : guardE ops N env o = some true) (hd : o.dst = some d) (ho : o.op = .call c) (hc : c.callee = .value f) (hf : evO N env f = some (.func (.func g) #[] capt.toArray)) (ha : evArgs (evO N env) c.args.toList = some vs) (hE : entersB P g = true)
    (hC : ∀ W, A W → CallsR P g (vs ++ capt).toArray W (fun _ : Unit => v) (fun _ => True) (fun _ => []))
    (h : WL r n P N D ops Q rest ((d, v) :: env) A) : WL r n P N D ops Q (o :: rest) env A := .mk fun a W h1 h2 hp => by
  refine wl_step hg h1 (fun c e => by rw [ho] at e; cases e) ?_
  rw [call_run ho hc (evO_sound h1 _ _ hf) (arr_map (evO_sound h1) ha) hE]
  simp only [Oper.uponIn, hd]
  refine ⟨fun hx => (by cases hx), callsIn_of ((hC W hp).out.mono ?_)⟩
  rintro e W' ⟨x, rfl, hx, hb, hn⟩
  exact h.out a W' h1 h2 (hG _ _ hp hb)
end
end Go.Am
namespace Go.Proofs.YteaiopkopifijaaGreatDoor
open Go Go.RowKit Go.Am Go.Lib
set_option maxRecDepth 10000
-- BOXES 4
theorem qtr_lt (z s : Int) : nrm z 4 < (s : Rat) ↔ z < 4 * s := by
  rw [qtr_eq]
  have h : ((z : Int) : Rat) < ((4 * s : Int) : Rat) ↔ z < 4 * s := Rat.intCast_lt_intCast
  rw [Rat.intCast_mul] at h
  rw [← h]
  have e : ((4 : Int) : Rat) = 4 := rfl
  rw [e]
  constructor <;> intro h <;> grind
end Go.Proofs.YteaiopkopifijaaGreatDoor
namespace Go.Proofs.YteaiopkopifijaaGreatDoor
/-- How far a place lies ahead of the front's line. -/
def FrP.way (f : FrP) (x : Rat) : Rat := (f.hd : Rat) * (x - (f.pos : Rat))
/-- How long a front moves till a time. -/
def FrP.run (f : FrP) (t : Rat) : Rat := if t ≤ f.st then 0 else t - f.st
theorem FrP.OK.hd2 {f : FrP} (h : f.OK) : (f.hd : Rat) = 1 ∨ (f.hd : Rat) = -1 := by
  rcases h.hd with e | e
  · exact .inl (by rw [e]; rfl)
  · exact .inr (by rw [e]; rfl)
end Go.Proofs.YteaiopkopifijaaGreatDoor
namespace Go.Proofs.YteaiopkopifijaaGreatDoor
open Go Go.RowKit Go.Am Go.Lib
set_option maxRecDepth 10000
-- BOXES 4
/-- The sum of a row's first numbers. -/
def psum (l : List Rat) (k : Nat) : Rat := (l.take k).foldl (fun s x => s + x) 0
theorem psum_succ {l : List Rat} {k : Nat} (hk : k < l.length) : psum l (k + 1) = psum l k + l[k] := by
  rw [psum, List.take_add_one, List.getElem?_eq_getElem hk, List.foldl_append]; rfl
theorem psum0 (l : List Rat) : numS (psum l 0) = [48] := numS_zero
theorem sums_gives (p : Option Addr) (n cap : Nat) (W : World) : CallsR Tryz.prog 260 #[slv p n cap] W (fun b : Nat => .func (.func 288) #[] #[selfP b]) (fun _ => True) (fun b => [⟨b, 24, [slv p n cap], true, none⟩]) := by
  refine calls_enter (args := [slv p n cap]) Tryz.func260 rfl rfl rfl ?_
  repeat (first | refine zA ?_ | refine zB ?_ | refine zC ?_ | refine zD ?_ | refine zE ?_ | refine zF ?_ | refine zG ?_ | refine zH ?_ | refine zI ?_ | refine zJ ?_ | refine zK ?_ | refine zL ?_ | refine zM rfl ?_ | refine zN ?_ | refine zO ?_ | refine zP ?_ | refine zQ ?_ | refine zR rfl ?_ | refine zS rfl ?_ | refine zT Tryz.mixed (by kernel_rfl) ?_)
  (refine wl_box rfl rfl rfl rfl ?_; intro)
  refine wl_pure Tryz.hT rfl rfl rfl ?_
  refine wl_nil ?_
  rename_i b1
  repeat (first | refine zA ?_ | refine zB ?_ | refine zC ?_ | refine zD ?_ | refine zE ?_ | refine zF ?_ | refine zG ?_ | refine zH ?_ | refine zI ?_ | refine zJ ?_ | refine zK ?_ | refine zL ?_ | refine zM rfl ?_ | refine zN ?_ | refine zO ?_ | refine zP ?_ | refine zQ ?_ | refine zR rfl ?_ | refine zS rfl ?_ | refine zT Tryz.mixed (by kernel_rfl) ?_)
  iterate 2 refine wl_pure Tryz.hT rfl rfl rfl ?_
  refine wl_nil ?_
  repeat (first | refine zA ?_ | refine zB ?_ | refine zC ?_ | refine zD ?_ | refine zE ?_ | refine zF ?_ | refine zG ?_ | refine zH ?_ | refine zI ?_ | refine zJ ?_ | refine zK ?_ | refine zL ?_ | refine zM rfl ?_ | refine zN ?_ | refine zO ?_ | refine zP ?_ | refine zQ ?_ | refine zR rfl ?_ | refine zS rfl ?_ | refine zT Tryz.mixed (by kernel_rfl) ?_)
  exact ne_ret1 Tryz.hT rfl (.tmp rfl) b1 rfl trivial fun W hp => NewBx.of_hp hp
/-- What the iterator reads. -/
structure SumN (b : Nat) (p : Option Addr) (cap : Nat) (l : List Rat) (W : World) : Prop where
  var : RowAt W b 0 [slv p l.length cap]
  row : StrsP W p (l.map numS)
  v : MaxP W
  t : TabP W
set_option maxHeartbeats 8000000 in
theorem sums_iter (b : Nat) (p : Option Addr) (cap : Nat) (l : List Rat) (hn : l.length < 4611686018427387904) (hz : ∀ k (hk : k < l.length), Sz2 (psum l k) l[k]) :
    IterG Tryz.prog 288 [selfP b] l.length (fun k => [str (numS (psum l (k + 1))), .int .i64 0]) (fun _ => SumN b p cap l) := by
  refine ⟨fun y J Jx hN hB hY W hJ => ?_⟩
  have hG : ∀ k, Grows (J k) := fun k W W' h hb => hB k W W' h hb
  refine iter_enter (args := [.func (.yield y) #[] #[], selfP b]) (J0 := J 0) Tryz.func288 rfl rfl rfl hJ ?_
  repeat (first | refine zA ?_ | refine zB ?_ | refine zC ?_ | refine zD ?_ | refine zE ?_ | refine zF ?_ | refine zG ?_ | refine zH ?_ | refine zI ?_ | refine zJ ?_ | refine zK ?_ | refine zL ?_ | refine zM rfl ?_ | refine zN ?_ | refine zO ?_ | refine zP ?_ | refine zQ ?_ | refine zR rfl ?_ | refine zS rfl ?_ | refine zT Tryz.mixed (by kernel_rfl) ?_)
  refine wl_pure Tryz.hT rfl rfl rfl ?_
  refine wl_nil ?_
  repeat (first | refine zA ?_ | refine zB ?_ | refine zC ?_ | refine zD ?_ | refine zE ?_ | refine zF ?_ | refine zG ?_ | refine zH ?_ | refine zI ?_ | refine zJ ?_ | refine zK ?_ | refine zL ?_ | refine zM rfl ?_ | refine zN ?_ | refine zO ?_ | refine zP ?_ | refine zQ ?_ | refine zR rfl ?_ | refine zS rfl ?_ | refine zT Tryz.mixed (by kernel_rfl) ?_)
  (first | refine wl_load rfl rfl rfl rfl (fun W hp => RowAt.load 0 Tryz.hT rfl ((fun W hp => (hN 0 W hp).var) W hp) rfl) ?_ | refine wl_load rfl rfl rfl rfl (fun W hp => RowAt.load 1 Tryz.hT rfl ((fun W hp => (hN 0 W hp).var) W hp) rfl) ?_ | refine wl_load rfl rfl rfl rfl (fun W hp => RowAt.load 2 Tryz.hT rfl ((fun W hp => (hN 0 W hp).var) W hp) rfl) ?_ | refine wl_load rfl rfl rfl rfl (fun W hp => RowAt.load 3 Tryz.hT rfl ((fun W hp => (hN 0 W hp).var) W hp) rfl) ?_ | refine wl_load rfl rfl rfl rfl (fun W hp => RowAt.load 4 Tryz.hT rfl ((fun W hp => (hN 0 W hp).var) W hp) rfl) ?_ | refine wl_load rfl rfl rfl rfl (fun W hp => RowAt.load 5 Tryz.hT rfl ((fun W hp => (hN 0 W hp).var) W hp) rfl) ?_ | refine wl_load rfl rfl rfl rfl (fun W hp => RowAt.load 6 Tryz.hT rfl ((fun W hp => (hN 0 W hp).var) W hp) rfl) ?_ | refine wl_load rfl rfl rfl rfl (fun W hp => RowAt.load 7 Tryz.hT rfl ((fun W hp => (hN 0 W hp).var) W hp) rfl) ?_ | refine wq_load rfl rfl rfl rfl (fun W hp => RowAt.load 0 Tryz.hT rfl ((fun W hp => (hN 0 W hp).var) W hp) rfl) ?_ | refine wq_load rfl rfl rfl rfl (fun W hp => RowAt.load 1 Tryz.hT rfl ((fun W hp => (hN 0 W hp).var) W hp) rfl) ?_ | refine wq_load rfl rfl rfl rfl (fun W hp => RowAt.load 2 Tryz.hT rfl ((fun W hp => (hN 0 W hp).var) W hp) rfl) ?_ | refine wq_load rfl rfl rfl rfl (fun W hp => RowAt.load 3 Tryz.hT rfl ((fun W hp => (hN 0 W hp).var) W hp) rfl) ?_ | refine wq_load rfl rfl rfl rfl (fun W hp => RowAt.load 4 Tryz.hT rfl ((fun W hp => (hN 0 W hp).var) W hp) rfl) ?_ | refine wq_load rfl rfl rfl rfl (fun W hp => RowAt.load 5 Tryz.hT rfl ((fun W hp => (hN 0 W hp).var) W hp) rfl) ?_ | refine wq_load rfl rfl rfl rfl (fun W hp => RowAt.load 6 Tryz.hT rfl ((fun W hp => (hN 0 W hp).var) W hp) rfl) ?_ | refine wq_load rfl rfl rfl rfl (fun W hp => RowAt.load 7 Tryz.hT rfl ((fun W hp => (hN 0 W hp).var) W hp) rfl) ?_)
  iterate 2 refine wl_pure Tryz.hT rfl rfl rfl ?_
  refine wl_nil ?_
  repeat (first | refine zA ?_ | refine zB ?_ | refine zC ?_ | refine zD ?_ | refine zE ?_ | refine zF ?_ | refine zG ?_ | refine zH ?_ | refine zI ?_ | refine zJ ?_ | refine zK ?_ | refine zL ?_ | refine zM rfl ?_ | refine zN ?_ | refine zO ?_ | refine zP ?_ | refine zQ ?_ | refine zR rfl ?_ | refine zS rfl ?_ | refine zT Tryz.mixed (by kernel_rfl) ?_)
  refine wc_loopA (X := Nat) (fun k => [(0, .func (.yield y) #[] #[]), (3, str (numS (psum l k))), (7, slv p l.length cap), (8, .int .i64 (l.length : Nat)), (9, .int .i64 (k : Nat))]) J (fun k => k ≤ l.length) (fun k => l.length - k) 0 (Nat.zero_le _) ⟨rfl, (by show some (str [48]) = some (str (numS (psum l 0))); rw [psum0]), rfl, rfl, rfl, trivial⟩ (fun W h => h) ?_
  intro k hk
  have hk : k ≤ l.length := hk
  repeat (first | refine zA ?_ | refine zB ?_ | refine zC ?_ | refine zD ?_ | refine zE ?_ | refine zF ?_ | refine zG ?_ | refine zH ?_ | refine zI ?_ | refine zJ ?_ | refine zK ?_ | refine zL ?_ | refine zM rfl ?_ | refine zN ?_ | refine zO ?_ | refine zP ?_ | refine zQ ?_ | refine zR rfl ?_ | refine zS rfl ?_ | refine zT Tryz.mixed (by kernel_rfl) ?_)
  refine wl_pure Tryz.hT rfl rfl rfl ?_
  by_cases hlt : k < l.length
  · refine wl_upd 10 (.bool true) rfl (congrArg Value.bool (decide_eq_true (by omega))) ?_
    refine wl_nil ?_
    repeat (first | refine zA ?_ | refine zB ?_ | refine zC ?_ | refine zD ?_ | refine zE ?_ | refine zF ?_ | refine zG ?_ | refine zH ?_ | refine zI ?_ | refine zJ ?_ | refine zK ?_ | refine zL ?_ | refine zM rfl ?_ | refine zN ?_ | refine zO ?_ | refine zP ?_ | refine zQ ?_ | refine zR rfl ?_ | refine zS rfl ?_ | refine zT Tryz.mixed (by kernel_rfl) ?_)
    obtain ⟨g, off, rfl, hrow⟩ : ∃ g off, p = some ⟨g, off, none⟩ ∧ ∀ W, J k W → RowAt W g (off + k * 1) [str (numS l[k])] := by
      obtain ⟨g, off, e, _⟩ := (hN 0 W hJ).row.row (i := k) (by rw [List.length_map]; exact hlt)
      refine ⟨g, off, e, fun W hW => ?_⟩
      obtain ⟨g', off', e', h⟩ := (hN k W hW).row.row (i := k) (by rw [List.length_map]; exact hlt)
      rw [e] at e'
      cases e'
      have := h k (by rw [List.length_map]; exact hlt)
      rwa [List.getElem_map] at this
    (first | refine wl_indexAddr Tryz.hT rfl rfl rfl rfl rfl rfl rfl (by omega) (by omega) ?_ | refine wq_indexAddr Tryz.hT rfl rfl rfl rfl rfl rfl rfl (by omega) (by omega) ?_)
    (first | refine wl_load rfl rfl rfl rfl (fun W hp => RowAt.load 0 Tryz.hT rfl ((fun W hp => hrow W hp) W hp) rfl) ?_ | refine wl_load rfl rfl rfl rfl (fun W hp => RowAt.load 1 Tryz.hT rfl ((fun W hp => hrow W hp) W hp) rfl) ?_ | refine wl_load rfl rfl rfl rfl (fun W hp => RowAt.load 2 Tryz.hT rfl ((fun W hp => hrow W hp) W hp) rfl) ?_ | refine wl_load rfl rfl rfl rfl (fun W hp => RowAt.load 3 Tryz.hT rfl ((fun W hp => hrow W hp) W hp) rfl) ?_ | refine wl_load rfl rfl rfl rfl (fun W hp => RowAt.load 4 Tryz.hT rfl ((fun W hp => hrow W hp) W hp) rfl) ?_ | refine wl_load rfl rfl rfl rfl (fun W hp => RowAt.load 5 Tryz.hT rfl ((fun W hp => hrow W hp) W hp) rfl) ?_ | refine wl_load rfl rfl rfl rfl (fun W hp => RowAt.load 6 Tryz.hT rfl ((fun W hp => hrow W hp) W hp) rfl) ?_ | refine wl_load rfl rfl rfl rfl (fun W hp => RowAt.load 7 Tryz.hT rfl ((fun W hp => hrow W hp) W hp) rfl) ?_ | refine wq_load rfl rfl rfl rfl (fun W hp => RowAt.load 0 Tryz.hT rfl ((fun W hp => hrow W hp) W hp) rfl) ?_ | refine wq_load rfl rfl rfl rfl (fun W hp => RowAt.load 1 Tryz.hT rfl ((fun W hp => hrow W hp) W hp) rfl) ?_ | refine wq_load rfl rfl rfl rfl (fun W hp => RowAt.load 2 Tryz.hT rfl ((fun W hp => hrow W hp) W hp) rfl) ?_ | refine wq_load rfl rfl rfl rfl (fun W hp => RowAt.load 3 Tryz.hT rfl ((fun W hp => hrow W hp) W hp) rfl) ?_ | refine wq_load rfl rfl rfl rfl (fun W hp => RowAt.load 4 Tryz.hT rfl ((fun W hp => hrow W hp) W hp) rfl) ?_ | refine wq_load rfl rfl rfl rfl (fun W hp => RowAt.load 5 Tryz.hT rfl ((fun W hp => hrow W hp) W hp) rfl) ?_ | refine wq_load rfl rfl rfl rfl (fun W hp => RowAt.load 6 Tryz.hT rfl ((fun W hp => hrow W hp) W hp) rfl) ?_ | refine wq_load rfl rfl rfl rfl (fun W hp => RowAt.load 7 Tryz.hT rfl ((fun W hp => hrow W hp) W hp) rfl) ?_)
    refine wl_pure Tryz.hT rfl rfl rfl ?_
    refine wl_nil ?_
    repeat (first | refine zA ?_ | refine zB ?_ | refine zC ?_ | refine zD ?_ | refine zE ?_ | refine zF ?_ | refine zG ?_ | refine zH ?_ | refine zI ?_ | refine zJ ?_ | refine zK ?_ | refine zL ?_ | refine zM rfl ?_ | refine zN ?_ | refine zO ?_ | refine zP ?_ | refine zQ ?_ | refine zR rfl ?_ | refine zS rfl ?_ | refine zT Tryz.mixed (by kernel_rfl) ?_)
    refine wl_pure Tryz.hT rfl rfl rfl ?_
    refine wl_nil ?_
    repeat (first | refine zA ?_ | refine zB ?_ | refine zC ?_ | refine zD ?_ | refine zE ?_ | refine zF ?_ | refine zG ?_ | refine zH ?_ | refine zI ?_ | refine zJ ?_ | refine zK ?_ | refine zL ?_ | refine zM rfl ?_ | refine zN ?_ | refine zO ?_ | refine zP ?_ | refine zQ ?_ | refine zR rfl ?_ | refine zS rfl ?_ | refine zT Tryz.mixed (by kernel_rfl) ?_)
    iterate 2 refine wl_pure Tryz.hT rfl rfl rfl ?_
    refine wl_callA (hG k) rfl rfl rfl rfl rfl rfl (by kernel_rfl) (fun W hp => (radd_gives (psum l k) l[k] (hz k hlt) W (hN k W hp).v (hN k W hp).t).cast (by rw [← psum_succ hlt])) ?_
    iterate 5 refine wl_pure Tryz.hT rfl rfl rfl ?_
    refine wl_nil ?_
    repeat (first | refine zA ?_ | refine zB ?_ | refine zC ?_ | refine zD ?_ | refine zE ?_ | refine zF ?_ | refine zG ?_ | refine zH ?_ | refine zI ?_ | refine zJ ?_ | refine zK ?_ | refine zL ?_ | refine zM rfl ?_ | refine zN ?_ | refine zO ?_ | refine zP ?_ | refine zQ ?_ | refine zR rfl ?_ | refine zS rfl ?_ | refine zT Tryz.mixed (by kernel_rfl) ?_)
    iterate 3 refine wl_pure Tryz.hT rfl rfl rfl ?_
    refine wl_yield (A1 := J (k + 1)) (A2 := Jx) rfl rfl rfl rfl rfl rfl (fun W hp => hY k W hlt hp) ?_ ?_
    · refine wl_pure Tryz.hT rfl rfl rfl ?_
      refine wl_pure Tryz.hT rfl rfl rfl ?_
      (first | refine wl_pure Tryz.hT rfl rfl rfl ?_ | refine wl_skip rfl rfl ?_)
      (first | refine wl_pure Tryz.hT rfl rfl rfl ?_ | refine wl_skip rfl rfl ?_)
      refine wl_pure Tryz.hT rfl rfl rfl ?_
      refine wl_nil ?_
      repeat (first | refine zA ?_ | refine zB ?_ | refine zC ?_ | refine zD ?_ | refine zE ?_ | refine zF ?_ | refine zG ?_ | refine zH ?_ | refine zI ?_ | refine zJ ?_ | refine zK ?_ | refine zL ?_ | refine zM rfl ?_ | refine zN ?_ | refine zO ?_ | refine zP ?_ | refine zQ ?_ | refine zR rfl ?_ | refine zS rfl ?_ | refine zT Tryz.mixed (by kernel_rfl) ?_)
      refine wl_pure Tryz.hT rfl rfl rfl ?_
      refine wl_upd 28 (.int .i64 ((k + 1 : Nat) : Int)) rfl (congrArg (Value.int .i64) (w64_succ (by omega))) ?_
      refine wl_pure Tryz.hT rfl rfl rfl ?_
      refine wl_nil ?_
      repeat (first | refine zA ?_ | refine zB ?_ | refine zC ?_ | refine zD ?_ | refine zE ?_ | refine zF ?_ | refine zG ?_ | refine zH ?_ | refine zI ?_ | refine zJ ?_ | refine zK ?_ | refine zL ?_ | refine zM rfl ?_ | refine zN ?_ | refine zO ?_ | refine zP ?_ | refine zQ ?_ | refine zR rfl ?_ | refine zS rfl ?_ | refine zT Tryz.mixed (by kernel_rfl) ?_)
      exact ne_loopA (k + 1) hlt (by omega) ⟨rfl, rfl, rfl, rfl, rfl, trivial⟩ (fun W h => h)
    · repeat (first | refine wl_pure Tryz.hT rfl rfl rfl ?_ | refine wl_loadBx 0 Tryz.hT rfl rfl rfl rfl rfl rfl rfl rfl ?_ | refine wl_loadBx 1 Tryz.hT rfl rfl rfl rfl rfl rfl rfl rfl ?_ | refine wl_loadBx 2 Tryz.hT rfl rfl rfl rfl rfl rfl rfl rfl ?_ | refine wl_loadBx 3 Tryz.hT rfl rfl rfl rfl rfl rfl rfl rfl ?_ | refine wl_skip rfl rfl ?_ | refine wq_pure Tryz.hT rfl rfl rfl ?_ | refine wq_loadBx 0 Tryz.hT rfl rfl rfl rfl rfl rfl rfl rfl ?_ | refine wq_loadBx 1 Tryz.hT rfl rfl rfl rfl rfl rfl rfl rfl ?_ | refine wq_loadBx 2 Tryz.hT rfl rfl rfl rfl rfl rfl rfl rfl ?_ | refine wq_loadBx 3 Tryz.hT rfl rfl rfl rfl rfl rfl rfl rfl ?_ | refine wq_skip rfl rfl ?_ | refine wl_buildZ Tryz.hZ Tryz.hT rfl rfl rfl rfl rfl rfl rfl rfl ?_ | refine wq_buildZ Tryz.hZ Tryz.hT rfl rfl rfl rfl rfl rfl rfl rfl ?_ | refine zA ?_ | refine zB ?_ | refine zC ?_ | refine zD ?_ | refine zE ?_ | refine zF ?_ | refine zG ?_ | refine zH ?_ | refine zI ?_ | refine zJ ?_ | refine zK ?_ | refine zL ?_ | refine zM rfl ?_ | refine zN ?_ | refine zO ?_ | refine zP ?_ | refine zQ ?_ | refine zR rfl ?_ | refine zS rfl ?_ | refine zT Tryz.mixed (by kernel_rfl) ?_ | (refine wl_box rfl rfl rfl rfl ?_; intro) | (refine wl_allocZ Tryz.hZ rfl rfl rfl rfl ?_; intro) | (refine wl_buildRowZ Tryz.hZ Tryz.hT rfl rfl rfl rfl rfl rfl rfl rfl rfl rfl rfl ?_; intro) | refine wl_storeBx 0 Tryz.hT rfl rfl rfl rfl rfl rfl rfl rfl rfl rfl rfl ?_ | refine wl_storeBx 1 Tryz.hT rfl rfl rfl rfl rfl rfl rfl rfl rfl rfl rfl ?_ | refine wl_storeBx 2 Tryz.hT rfl rfl rfl rfl rfl rfl rfl rfl rfl rfl rfl ?_ | refine wl_storeBx 3 Tryz.hT rfl rfl rfl rfl rfl rfl rfl rfl rfl rfl rfl ?_)
      exact ne_iter_stop rfl (fun W h => h)
  · have e : k = l.length := by omega
    subst e
    refine wl_upd 10 (.bool false) rfl (congrArg Value.bool (decide_eq_false (by omega))) ?_
    refine wl_nil ?_
    repeat (first | refine zA ?_ | refine zB ?_ | refine zC ?_ | refine zD ?_ | refine zE ?_ | refine zF ?_ | refine zG ?_ | refine zH ?_ | refine zI ?_ | refine zJ ?_ | refine zK ?_ | refine zL ?_ | refine zM rfl ?_ | refine zN ?_ | refine zO ?_ | refine zP ?_ | refine zQ ?_ | refine zR rfl ?_ | refine zS rfl ?_ | refine zT Tryz.mixed (by kernel_rfl) ?_)
    exact ne_iter rfl fun W h => h
set_option maxHeartbeats 8000000 in
theorem rsum_gives (l : List Rat) (p : Option Addr) (cap : Nat) (hn : l.length ≤ 4096) (hk : ∀ q ∈ l, okQ q) (hz : ∀ k (hk : k < l.length), Sz2 (psum l k) l[k]) (W : World) (hS : StrsP W p (l.map numS)) (hv : MaxP W) (ht : TabP W) :
    CallsR Tryz.prog 210 #[slv p l.length cap] W (fun _ : Unit => .tuple #[str (numS (psum l l.length)), .int .i64 0]) (fun _ => True) (fun _ => []) := by
  refine calls_enter (args := [slv p l.length cap]) Tryz.func210 rfl rfl rfl ?_
  repeat (first | refine zA ?_ | refine zB ?_ | refine zC ?_ | refine zD ?_ | refine zE ?_ | refine zF ?_ | refine zG ?_ | refine zH ?_ | refine zI ?_ | refine zJ ?_ | refine zK ?_ | refine zL ?_ | refine zM rfl ?_ | refine zN ?_ | refine zO ?_ | refine zP ?_ | refine zQ ?_ | refine zR rfl ?_ | refine zS rfl ?_ | refine zT Tryz.mixed (by kernel_rfl) ?_)
  (refine wl_allocZ Tryz.hZ rfl rfl rfl rfl ?_; intro)
  (refine wl_allocZ Tryz.hZ rfl rfl rfl rfl ?_; intro)
  refine wl_nil ?_
  rename_i b2 b3
  repeat (first | refine zA ?_ | refine zB ?_ | refine zC ?_ | refine zD ?_ | refine zE ?_ | refine zF ?_ | refine zG ?_ | refine zH ?_ | refine zI ?_ | refine zJ ?_ | refine zK ?_ | refine zL ?_ | refine zM rfl ?_ | refine zN ?_ | refine zO ?_ | refine zP ?_ | refine zQ ?_ | refine zR rfl ?_ | refine zS rfl ?_ | refine zT Tryz.mixed (by kernel_rfl) ?_)
  iterate 3 refine wl_pure Tryz.hT rfl rfl rfl ?_
  refine wl_upd 12 (.bool false) rfl (congrArg Value.bool (decide_eq_false (by omega))) ?_
  refine wl_nil ?_
  repeat (first | refine zA ?_ | refine zB ?_ | refine zC ?_ | refine zD ?_ | refine zE ?_ | refine zF ?_ | refine zG ?_ | refine zH ?_ | refine zI ?_ | refine zJ ?_ | refine zK ?_ | refine zL ?_ | refine zM rfl ?_ | refine zN ?_ | refine zO ?_ | refine zP ?_ | refine zQ ?_ | refine zR rfl ?_ | refine zS rfl ?_ | refine zT Tryz.mixed (by kernel_rfl) ?_)
  iterate 3 refine wl_pure Tryz.hT rfl rfl rfl ?_
  refine wl_nil ?_
  repeat (first | refine zA ?_ | refine zB ?_ | refine zC ?_ | refine zD ?_ | refine zE ?_ | refine zF ?_ | refine zG ?_ | refine zH ?_ | refine zI ?_ | refine zJ ?_ | refine zK ?_ | refine zL ?_ | refine zM rfl ?_ | refine zN ?_ | refine zO ?_ | refine zP ?_ | refine zQ ?_ | refine zR rfl ?_ | refine zS rfl ?_ | refine zT Tryz.mixed (by kernel_rfl) ?_)
  refine wc_loop (X := Nat) (fun i => [(0, slv p l.length cap), (2, selfP b2), (3, selfP b3), (13, slv p l.length cap), (14, .int .i64 (l.length : Nat)), (15, .int .i64 (i : Nat))]) (fun _ => [⟨b2, 28, [str []], true, none⟩, ⟨b3, 25, [.int .i64 0], true, none⟩]) (fun i => i ≤ l.length) (fun i => l.length - i) 0 (Nat.zero_le _) ⟨rfl, rfl, rfl, rfl, rfl, rfl, trivial⟩ [] rfl ?_
  intro i hi
  have hi : i ≤ l.length := hi
  repeat (first | refine zA ?_ | refine zB ?_ | refine zC ?_ | refine zD ?_ | refine zE ?_ | refine zF ?_ | refine zG ?_ | refine zH ?_ | refine zI ?_ | refine zJ ?_ | refine zK ?_ | refine zL ?_ | refine zM rfl ?_ | refine zN ?_ | refine zO ?_ | refine zP ?_ | refine zQ ?_ | refine zR rfl ?_ | refine zS rfl ?_ | refine zT Tryz.mixed (by kernel_rfl) ?_)
  refine wl_pure Tryz.hT rfl rfl rfl ?_
  by_cases hlt : i < l.length
  · refine wl_upd 16 (.bool true) rfl (congrArg Value.bool (decide_eq_true (by omega))) ?_
    refine wl_nil ?_
    repeat (first | refine zA ?_ | refine zB ?_ | refine zC ?_ | refine zD ?_ | refine zE ?_ | refine zF ?_ | refine zG ?_ | refine zH ?_ | refine zI ?_ | refine zJ ?_ | refine zK ?_ | refine zL ?_ | refine zM rfl ?_ | refine zN ?_ | refine zO ?_ | refine zP ?_ | refine zQ ?_ | refine zR rfl ?_ | refine zS rfl ?_ | refine zT Tryz.mixed (by kernel_rfl) ?_)
    obtain ⟨g, off, rfl, hrow⟩ := hS.row (i := i) (by rw [List.length_map]; exact hlt)
    have hrow1 : RowAt W g (off + i * 1) [str (numS l[i])] := by have := hrow i (by rw [List.length_map]; exact hlt); rwa [List.getElem_map] at this
    have ho := hk l[i] (List.getElem_mem hlt)
    have hle := numS_len ho
    (first | refine wl_indexAddr Tryz.hT rfl rfl rfl rfl rfl rfl rfl (by omega) (by omega) ?_ | refine wq_indexAddr Tryz.hT rfl rfl rfl rfl rfl rfl rfl (by omega) (by omega) ?_)
    (first | refine wl_load rfl rfl rfl rfl (fun W hp => RowAt.load 0 Tryz.hT rfl ((fun W hp => hrow1.hp hp) W hp) rfl) ?_ | refine wl_load rfl rfl rfl rfl (fun W hp => RowAt.load 1 Tryz.hT rfl ((fun W hp => hrow1.hp hp) W hp) rfl) ?_ | refine wl_load rfl rfl rfl rfl (fun W hp => RowAt.load 2 Tryz.hT rfl ((fun W hp => hrow1.hp hp) W hp) rfl) ?_ | refine wl_load rfl rfl rfl rfl (fun W hp => RowAt.load 3 Tryz.hT rfl ((fun W hp => hrow1.hp hp) W hp) rfl) ?_ | refine wl_load rfl rfl rfl rfl (fun W hp => RowAt.load 4 Tryz.hT rfl ((fun W hp => hrow1.hp hp) W hp) rfl) ?_ | refine wl_load rfl rfl rfl rfl (fun W hp => RowAt.load 5 Tryz.hT rfl ((fun W hp => hrow1.hp hp) W hp) rfl) ?_ | refine wl_load rfl rfl rfl rfl (fun W hp => RowAt.load 6 Tryz.hT rfl ((fun W hp => hrow1.hp hp) W hp) rfl) ?_ | refine wl_load rfl rfl rfl rfl (fun W hp => RowAt.load 7 Tryz.hT rfl ((fun W hp => hrow1.hp hp) W hp) rfl) ?_ | refine wq_load rfl rfl rfl rfl (fun W hp => RowAt.load 0 Tryz.hT rfl ((fun W hp => hrow1.hp hp) W hp) rfl) ?_ | refine wq_load rfl rfl rfl rfl (fun W hp => RowAt.load 1 Tryz.hT rfl ((fun W hp => hrow1.hp hp) W hp) rfl) ?_ | refine wq_load rfl rfl rfl rfl (fun W hp => RowAt.load 2 Tryz.hT rfl ((fun W hp => hrow1.hp hp) W hp) rfl) ?_ | refine wq_load rfl rfl rfl rfl (fun W hp => RowAt.load 3 Tryz.hT rfl ((fun W hp => hrow1.hp hp) W hp) rfl) ?_ | refine wq_load rfl rfl rfl rfl (fun W hp => RowAt.load 4 Tryz.hT rfl ((fun W hp => hrow1.hp hp) W hp) rfl) ?_ | refine wq_load rfl rfl rfl rfl (fun W hp => RowAt.load 5 Tryz.hT rfl ((fun W hp => hrow1.hp hp) W hp) rfl) ?_ | refine wq_load rfl rfl rfl rfl (fun W hp => RowAt.load 6 Tryz.hT rfl ((fun W hp => hrow1.hp hp) W hp) rfl) ?_ | refine wq_load rfl rfl rfl rfl (fun W hp => RowAt.load 7 Tryz.hT rfl ((fun W hp => hrow1.hp hp) W hp) rfl) ?_)
    refine wl_pure Tryz.hT rfl rfl rfl ?_
    refine wl_nil ?_
    repeat (first | refine zA ?_ | refine zB ?_ | refine zC ?_ | refine zD ?_ | refine zE ?_ | refine zF ?_ | refine zG ?_ | refine zH ?_ | refine zI ?_ | refine zJ ?_ | refine zK ?_ | refine zL ?_ | refine zM rfl ?_ | refine zN ?_ | refine zO ?_ | refine zP ?_ | refine zQ ?_ | refine zR rfl ?_ | refine zS rfl ?_ | refine zT Tryz.mixed (by kernel_rfl) ?_)
    refine wl_pure Tryz.hT rfl rfl rfl ?_
    refine wl_call1 rfl rfl rfl rfl rfl rfl (by kernel_rfl) (fun W hp => (rcheck_gives (numS l[i]) (by omega) W (hv.hp hp) (ht.hp hp)).cast (by rw [rd_okQ ho])) ?_
    refine wl_pure Tryz.hT rfl rfl rfl ?_
    refine wl_nil ?_
    repeat (first | refine zA ?_ | refine zB ?_ | refine zC ?_ | refine zD ?_ | refine zE ?_ | refine zF ?_ | refine zG ?_ | refine zH ?_ | refine zI ?_ | refine zJ ?_ | refine zK ?_ | refine zL ?_ | refine zM rfl ?_ | refine zN ?_ | refine zO ?_ | refine zP ?_ | refine zQ ?_ | refine zR rfl ?_ | refine zS rfl ?_ | refine zT Tryz.mixed (by kernel_rfl) ?_)
    iterate 2 refine wl_pure Tryz.hT rfl rfl rfl ?_
    refine wl_nil ?_
    repeat (first | refine zA ?_ | refine zB ?_ | refine zC ?_ | refine zD ?_ | refine zE ?_ | refine zF ?_ | refine zG ?_ | refine zH ?_ | refine zI ?_ | refine zJ ?_ | refine zK ?_ | refine zL ?_ | refine zM rfl ?_ | refine zN ?_ | refine zO ?_ | refine zP ?_ | refine zQ ?_ | refine zR rfl ?_ | refine zS rfl ?_ | refine zT Tryz.mixed (by kernel_rfl) ?_)
    refine wl_pure Tryz.hT rfl rfl rfl ?_
    refine wl_upd 24 (.int .i64 ((i + 1 : Nat) : Int)) rfl (congrArg (Value.int .i64) (w64_succ (by omega))) ?_
    refine wl_pure Tryz.hT rfl rfl rfl ?_
    refine wl_nil ?_
    repeat (first | refine zA ?_ | refine zB ?_ | refine zC ?_ | refine zD ?_ | refine zE ?_ | refine zF ?_ | refine zG ?_ | refine zH ?_ | refine zI ?_ | refine zJ ?_ | refine zK ?_ | refine zL ?_ | refine zM rfl ?_ | refine zN ?_ | refine zO ?_ | refine zP ?_ | refine zQ ?_ | refine zR rfl ?_ | refine zS rfl ?_ | refine zT Tryz.mixed (by kernel_rfl) ?_)
    exact ne_loop (i + 1) hlt (by show l.length - (i + 1) < l.length - i; omega) ⟨rfl, rfl, rfl, rfl, rfl, rfl, trivial⟩ [] rfl
  · refine wl_upd 16 (.bool false) rfl (congrArg Value.bool (decide_eq_false (by omega))) ?_
    refine wl_nil ?_
    repeat (first | refine zA ?_ | refine zB ?_ | refine zC ?_ | refine zD ?_ | refine zE ?_ | refine zF ?_ | refine zG ?_ | refine zH ?_ | refine zI ?_ | refine zJ ?_ | refine zK ?_ | refine zL ?_ | refine zM rfl ?_ | refine zN ?_ | refine zO ?_ | refine zP ?_ | refine zQ ?_ | refine zR rfl ?_ | refine zS rfl ?_ | refine zT Tryz.mixed (by kernel_rfl) ?_)
    (refine wl_allocZ Tryz.hZ rfl rfl rfl rfl ?_; intro)
    (first | refine wl_storeBx 0 Tryz.hT rfl rfl rfl rfl rfl rfl rfl rfl rfl rfl rfl ?_ | refine wl_storeBx 1 Tryz.hT rfl rfl rfl rfl rfl rfl rfl rfl rfl rfl rfl ?_ | refine wl_storeBx 2 Tryz.hT rfl rfl rfl rfl rfl rfl rfl rfl rfl rfl rfl ?_ | refine wl_storeBx 3 Tryz.hT rfl rfl rfl rfl rfl rfl rfl rfl rfl rfl rfl ?_)
    refine wl_nil ?_
    rename_i b7
    repeat (first | refine zA ?_ | refine zB ?_ | refine zC ?_ | refine zD ?_ | refine zE ?_ | refine zF ?_ | refine zG ?_ | refine zH ?_ | refine zI ?_ | refine zJ ?_ | refine zK ?_ | refine zL ?_ | refine zM rfl ?_ | refine zN ?_ | refine zO ?_ | refine zP ?_ | refine zQ ?_ | refine zR rfl ?_ | refine zS rfl ?_ | refine zT Tryz.mixed (by kernel_rfl) ?_)
    refine wl_pure Tryz.hT rfl rfl rfl ?_
    refine wl_call (X := Nat) rfl rfl rfl rfl rfl rfl (by kernel_rfl) (fun W _ => sums_gives p l.length cap W) ?_
    intro bS _
    refine wl_nil ?_
    repeat (first | refine zA ?_ | refine zB ?_ | refine zC ?_ | refine zD ?_ | refine zE ?_ | refine zF ?_ | refine zG ?_ | refine zH ?_ | refine zI ?_ | refine zJ ?_ | refine zK ?_ | refine zL ?_ | refine zM rfl ?_ | refine zN ?_ | refine zO ?_ | refine zP ?_ | refine zQ ?_ | refine zR rfl ?_ | refine zS rfl ?_ | refine zT Tryz.mixed (by kernel_rfl) ?_)
    refine wc_rangeG (X := Nat) (fun k => [⟨b2, 28, [str []], true, none⟩, ⟨b3, 25, [.int .i64 0], true, none⟩, ⟨b7, 28, [str (numS (psum l k))], true, none⟩, ⟨bS, 24, [slv p l.length cap], true, none⟩])
      (fun j x => x = j) (fun _ _ => False) 0 rfl (by kernel_rfl) (sums_iter bS p cap l (by omega) hz) (fun _ => rfl) rfl [] (by show _ = [(⟨b2, 28, [str []], true, none⟩ : Bx), ⟨b3, 25, [.int .i64 0], true, none⟩, ⟨b7, 28, [str (numS (psum l 0))], true, none⟩, ⟨bS, 24, [slv p l.length cap], true, none⟩] ++ []; rw [psum0]; rfl)
      (fun k x W _ hp => ⟨RowAt.of_bx hp 3 rfl rfl, hS.hp hp, hv.hp hp, ht.hp hp⟩) ?_ ?_ (fun _ _ _ _ _ h => h.elim)
    · intro k x d L rec hk hx hrec
      obtain rfl : x = k := hx
      repeat (first | refine zA ?_ | refine zB ?_ | refine zC ?_ | refine zD ?_ | refine zE ?_ | refine zF ?_ | refine zG ?_ | refine zH ?_ | refine zI ?_ | refine zJ ?_ | refine zK ?_ | refine zL ?_ | refine zM rfl ?_ | refine zN ?_ | refine zO ?_ | refine zP ?_ | refine zQ ?_ | refine zR rfl ?_ | refine zS rfl ?_ | refine zT Tryz.mixed (by kernel_rfl) ?_)
      refine wl_pure Tryz.hT rfl rfl rfl ?_
      refine wl_nil ?_
      repeat (first | refine zA ?_ | refine zB ?_ | refine zC ?_ | refine zD ?_ | refine zE ?_ | refine zF ?_ | refine zG ?_ | refine zH ?_ | refine zI ?_ | refine zJ ?_ | refine zK ?_ | refine zL ?_ | refine zM rfl ?_ | refine zN ?_ | refine zO ?_ | refine zP ?_ | refine zQ ?_ | refine zR rfl ?_ | refine zS rfl ?_ | refine zT Tryz.mixed (by kernel_rfl) ?_)
      refine wl_pure Tryz.hT rfl rfl rfl ?_
      refine wl_nil ?_
      refine ne_begin 5 hrec rfl ?_
      refine wc_block ?_
      repeat (first | refine zA ?_ | refine zB ?_ | refine zC ?_ | refine zD ?_ | refine zE ?_ | refine zF ?_ | refine zG ?_ | refine zH ?_ | refine zI ?_ | refine zJ ?_ | refine zK ?_ | refine zL ?_ | refine zM rfl ?_ | refine zN ?_ | refine zO ?_ | refine zP ?_ | refine zQ ?_ | refine zR rfl ?_ | refine zS rfl ?_ | refine zT Tryz.mixed (by kernel_rfl) ?_)
      iterate 2 refine wl_pure Tryz.hT rfl rfl rfl ?_
      refine wl_nil ?_
      repeat (first | refine zA ?_ | refine zB ?_ | refine zC ?_ | refine zD ?_ | refine zE ?_ | refine zF ?_ | refine zG ?_ | refine zH ?_ | refine zI ?_ | refine zJ ?_ | refine zK ?_ | refine zL ?_ | refine zM rfl ?_ | refine zN ?_ | refine zO ?_ | refine zP ?_ | refine zQ ?_ | refine zR rfl ?_ | refine zS rfl ?_ | refine zT Tryz.mixed (by kernel_rfl) ?_)
      refine wl_pure Tryz.hT rfl rfl rfl ?_
      (first | refine wl_storeBx 0 Tryz.hT rfl rfl rfl rfl rfl rfl rfl rfl rfl rfl rfl ?_ | refine wl_storeBx 1 Tryz.hT rfl rfl rfl rfl rfl rfl rfl rfl rfl rfl rfl ?_ | refine wl_storeBx 2 Tryz.hT rfl rfl rfl rfl rfl rfl rfl rfl rfl rfl rfl ?_ | refine wl_storeBx 3 Tryz.hT rfl rfl rfl rfl rfl rfl rfl rfl rfl rfl rfl ?_)
      refine wl_nil ?_
      repeat (first | refine zA ?_ | refine zB ?_ | refine zC ?_ | refine zD ?_ | refine zE ?_ | refine zF ?_ | refine zG ?_ | refine zH ?_ | refine zI ?_ | refine zJ ?_ | refine zK ?_ | refine zL ?_ | refine zM rfl ?_ | refine zN ?_ | refine zO ?_ | refine zP ?_ | refine zQ ?_ | refine zR rfl ?_ | refine zS rfl ?_ | refine zT Tryz.mixed (by kernel_rfl) ?_)
      exact ne_round 5 (x + 1) hrec rfl rfl [] rfl
    · intro x d L rec hx
      obtain rfl : x = l.length := hx
      repeat (first | refine zA ?_ | refine zB ?_ | refine zC ?_ | refine zD ?_ | refine zE ?_ | refine zF ?_ | refine zG ?_ | refine zH ?_ | refine zI ?_ | refine zJ ?_ | refine zK ?_ | refine zL ?_ | refine zM rfl ?_ | refine zN ?_ | refine zO ?_ | refine zP ?_ | refine zQ ?_ | refine zR rfl ?_ | refine zS rfl ?_ | refine zT Tryz.mixed (by kernel_rfl) ?_)
      (first | refine wl_loadBx 0 Tryz.hT rfl rfl rfl rfl rfl rfl rfl rfl ?_ | refine wl_loadBx 1 Tryz.hT rfl rfl rfl rfl rfl rfl rfl rfl ?_ | refine wl_loadBx 2 Tryz.hT rfl rfl rfl rfl rfl rfl rfl rfl ?_ | refine wl_loadBx 3 Tryz.hT rfl rfl rfl rfl rfl rfl rfl rfl ?_)
      (first | refine wl_storeBx 0 Tryz.hT rfl rfl rfl rfl rfl rfl rfl rfl rfl rfl rfl ?_ | refine wl_storeBx 1 Tryz.hT rfl rfl rfl rfl rfl rfl rfl rfl rfl rfl rfl ?_ | refine wl_storeBx 2 Tryz.hT rfl rfl rfl rfl rfl rfl rfl rfl rfl rfl rfl ?_ | refine wl_storeBx 3 Tryz.hT rfl rfl rfl rfl rfl rfl rfl rfl rfl rfl rfl ?_)
      (first | refine wl_storeBx 0 Tryz.hT rfl rfl rfl rfl rfl rfl rfl rfl rfl rfl rfl ?_ | refine wl_storeBx 1 Tryz.hT rfl rfl rfl rfl rfl rfl rfl rfl rfl rfl rfl ?_ | refine wl_storeBx 2 Tryz.hT rfl rfl rfl rfl rfl rfl rfl rfl rfl rfl rfl ?_ | refine wl_storeBx 3 Tryz.hT rfl rfl rfl rfl rfl rfl rfl rfl rfl rfl rfl ?_)
      refine wl_nil ?_
      repeat (first | refine zA ?_ | refine zB ?_ | refine zC ?_ | refine zD ?_ | refine zE ?_ | refine zF ?_ | refine zG ?_ | refine zH ?_ | refine zI ?_ | refine zJ ?_ | refine zK ?_ | refine zL ?_ | refine zM rfl ?_ | refine zN ?_ | refine zO ?_ | refine zP ?_ | refine zQ ?_ | refine zR rfl ?_ | refine zS rfl ?_ | refine zT Tryz.mixed (by kernel_rfl) ?_)
      refine ne_mark 4 rfl ?_
      exact ne_ret2 Tryz.hT rfl (.cell 0 rfl rfl rfl rfl rfl) (.cell 1 rfl rfl rfl rfl rfl) () rfl trivial fun W _ => NewBx.nil _ _
end Go.Proofs.YteaiopkopifijaaGreatDoor
namespace Go.Proofs.YteaiopkopifijaaGreatDoor
open Go Go.RowKit Go.Am Go.Lib
set_option maxRecDepth 10000
-- BOXES 5
section
variable {r : Option Nat} {n : Nat} {P : Program} {W0 : World} {N : Nat} {D : List Deferred} {ops : List Oper} {Q : Exit → Act → World → Prop} {o : Oper} {rest : List Oper} {env : Env} {bxs : List Bx} {A : World → Prop}
theorem wl_nilCheck {d : Nat} {x : Operand} {a : Addr} (hg : guardE ops N env o = some true) (hd : o.dst = some d) (ho : o.op = .nilCheck x) (hx : evO N env x = some (.pointer (some a)))
    (h : WL r n P N D ops Q rest ((d, .pointer (some a)) :: env) A) : WL r n P N D ops Q (o :: rest) env A :=
  wl_val hg hd (fun c e => by rw [ho] at e; cases e) (fun _ W hρ _ => by simp [execOp, ho, hρ _ _ hx]) h
theorem wl_index {d : Nat} {t e : TypeId} {x y : Operand} {m : Nat} {cs : Array Value} {k : IntKind} {i : Int} {v : Value} (ht : P.underlying t = some (.array m e)) (he : ∀ W, (isAgg e).run P W = .ok false W) (hz : ∀ W, (Go.sizeOf e).run P W = .ok 1 W)
    (hg : guardE ops N env o = some true) (hd : o.dst = some d) (ho : o.op = .index t x y) (hx : evO N env x = some (.agg cs)) (hy : evO N env y = some (.int k i)) (h0 : 0 ≤ i ∧ i < m) (hv : cs[i.toNat]? = some v)
    (h : WL r n P N D ops Q rest ((d, v) :: env) A) : WL r n P N D ops Q (o :: rest) env A :=
  wl_val hg hd (fun c e => by rw [ho] at e; cases e) (fun _ W hρ _ => by
    simp [execOp, ho, hρ _ _ hx, hρ _ _ hy, Instr.index, asIntOf, run_underlying ht, h0, hz, part, he, hv]) h
/-- An array built of its parts, elements of one cell. -/
theorem wl_buildA {d : Nat} {t e : TypeId} {m : Nat} {parts : Array (Nat × Operand)} {vs : List (Nat × Value)} (z : Value) {c : List Value} (ht : P.underlying t = some (.array m e)) (hz : ∀ W, (zeroValue t).run P W = .ok z W) (hs : ∀ W, (Go.sizeOf e).run P W = .ok 1 W)
    (hg : guardE ops N env o = some true) (hd : o.dst = some d) (ho : o.op = .build t parts) (hp : evParts (evO N env) parts.toList = some vs) (hc : fillL (placeS 1) z.cells.toList vs = some c)
    (h : WL r n P N D ops Q rest ((d, .agg c.toArray) :: env) A) : WL r n P N D ops Q (o :: rest) env A :=
  wl_val hg hd (fun c e => by rw [ho] at e; cases e) (fun ρ W hρ _ => by
    have hparts : (parts.map fun (i, x) => (i, ρ x)).toList = vs := by rw [← evParts_map hρ hp]; simp
    have hfill := fill_eq hc
    simp only [Array.toArray_toList] at hfill
    have hfill' : Instr.fill (fun i => some (i * 1, 1)) z.cells (parts.map fun (i, x) => (i, ρ x)).toList = some c.toArray := by rw [hparts]; exact hfill
    simp only [execOp, ho, Instr.build, Sem.run_bind, hz, Result.andThen_ok, run_underlying ht, hs, Sem.run_pure]
    rw [hfill']
    simp) h
/-- A store of what lies there already. -/
theorem wl_storeSame {T : Tbl} {i : TI} {t ty : TypeId} {x y : Operand} {b off : Nat} {c : List Value} {v : Value} (hT : Go.Am.okB P T = true) (hg : guardE ops N env o = some true) (hd : o.dst = none) (ho : o.op = .store t x y) (ht : find T t = some i)
    (hx : evO N env x = some (.pointer (some ⟨b, off, none⟩))) (hy : evO N env y = some v) (hs : Nat.beq v.cells.toList.length i.size = true) (h1 : allOne v.cells.toList = true) (hl : Nat.ble (off + i.size) c.length = true) (hys : splice c off v.cells.toList = c)
    (hc : ∀ W, Hp W0 bxs W → W.heap[b]? = some (.cells c.toArray ty (0, 0)))
    (h : WL r n P N D ops Q rest env (Hp W0 bxs)) : WL r n P N D ops Q (o :: rest) env (Hp W0 bxs) := .mk fun a W ha hd' hp => by
  refine wl_step hg ha (fun c e => by rw [ho] at e; cases e) ?_
  have h3 := hc W hp
  obtain ⟨W', hr, hu⟩ := run_storeVar (P := P) (find_row hT ht) h3 (Nat.eq_of_beq_eq_true hs) (Nat.le_of_ble_eq_true hl) h1
  rw [hys] at hu
  have : (execOp (ov env a).eval o).run P W = .ok .skip W' := by
    simp [execOp, ho, Instr.storeAt, Instr.sureAddr, evO_sound ha _ _ hx, evO_sound ha _ _ hy, hr]
  rw [this]
  simp only [Oper.uponIn, hd]
  refine h.out a W' ha hd' (hp.grow ⟨hu.os, hu.tape, hu.output, ?_, ?_⟩)
  · rw [hu.heap, Array.size_setIfInBounds]; exact Nat.le_refl _
  · intro k hk
    rw [hu.heap, Array.getElem?_setIfInBounds]
    by_cases e : b = k
    · subst e; rw [if_pos rfl, if_pos hk]; exact h3.symm
    · rw [if_neg e]
end
set_option maxHeartbeats 4000000 in
theorem pcheck_gives (q : Rat) (h : szQ q 36) (W : World) (hv : MaxP W) (ht : TabP W) :
    CallsR Tryz.prog 141 #[str (numS q)] W (fun _ : Unit => .int .i64 0) (fun _ => True) (fun _ => []) := by
  have hk := h.ok (by decide)
  have l1 := dd_len 36 q.num.natAbs (by decide) h.1
  have l2 := dd_len 36 q.den (by decide) h.2
  refine calls_enter (args := [str (numS q)]) Tryz.func141 rfl rfl rfl ?_
  repeat (first | refine zA ?_ | refine zB ?_ | refine zC ?_ | refine zD ?_ | refine zE ?_ | refine zF ?_ | refine zG ?_ | refine zH ?_ | refine zI ?_ | refine zJ ?_ | refine zK ?_ | refine zL ?_ | refine zM rfl ?_ | refine zN ?_ | refine zO ?_ | refine zP ?_ | refine zQ ?_ | refine zR rfl ?_ | refine zS rfl ?_ | refine zT Tryz.mixed (by kernel_rfl) ?_)
  refine wl_pure Tryz.hT rfl rfl rfl ?_
  refine wl_nil ?_
  repeat (first | refine zA ?_ | refine zB ?_ | refine zC ?_ | refine zD ?_ | refine zE ?_ | refine zF ?_ | refine zG ?_ | refine zH ?_ | refine zI ?_ | refine zJ ?_ | refine zK ?_ | refine zL ?_ | refine zM rfl ?_ | refine zN ?_ | refine zO ?_ | refine zP ?_ | refine zQ ?_ | refine zR rfl ?_ | refine zS rfl ?_ | refine zT Tryz.mixed (by kernel_rfl) ?_)
  refine wl_pure Tryz.hT rfl rfl rfl ?_
  refine wl_call1 rfl rfl rfl rfl rfl rfl (by kernel_rfl) (fun W hp => rparts_gives q hk W (hv.hp hp) (ht.hp hp)) ?_
  iterate 7 refine wl_pure Tryz.hT rfl rfl rfl ?_
  refine wl_nil ?_
  repeat (first | refine zA ?_ | refine zB ?_ | refine zC ?_ | refine zD ?_ | refine zE ?_ | refine zF ?_ | refine zG ?_ | refine zH ?_ | refine zI ?_ | refine zJ ?_ | refine zK ?_ | refine zL ?_ | refine zM rfl ?_ | refine zN ?_ | refine zO ?_ | refine zP ?_ | refine zQ ?_ | refine zR rfl ?_ | refine zS rfl ?_ | refine zT Tryz.mixed (by kernel_rfl) ?_)
  iterate 2 refine wl_pure Tryz.hT rfl rfl rfl ?_
  refine wl_nil ?_
  repeat (first | refine zA ?_ | refine zB ?_ | refine zC ?_ | refine zD ?_ | refine zE ?_ | refine zF ?_ | refine zG ?_ | refine zH ?_ | refine zI ?_ | refine zJ ?_ | refine zK ?_ | refine zL ?_ | refine zM rfl ?_ | refine zN ?_ | refine zO ?_ | refine zP ?_ | refine zQ ?_ | refine zR rfl ?_ | refine zS rfl ?_ | refine zT Tryz.mixed (by kernel_rfl) ?_)
  refine wl_pure Tryz.hT rfl rfl rfl ?_
  refine wl_call1 rfl rfl rfl rfl rfl rfl (by kernel_rfl) (fun W _ => (trimPrefix_gives (itoa q.num) [45] W).cast (by rw [trimPrefix_itoa])) ?_
  refine wl_pure Tryz.hT rfl rfl rfl ?_
  refine wl_upd 17 (.int .i64 ((decDigits q.num.natAbs).length : Nat)) rfl (congrArg (fun n : Nat => Value.int .i64 (n : Int)) (str_size _)) ?_
  iterate 2 refine wl_pure Tryz.hT rfl rfl rfl ?_
  refine wl_upd 19 (.int .i64 ((decDigits q.den).length : Nat)) rfl (congrArg (fun n : Nat => Value.int .i64 (n : Int)) ((str_size _).trans (by rw [it_pos]))) ?_
  iterate 2 refine wl_pure Tryz.hT rfl rfl rfl ?_
  refine wl_upd 21 (.bool false) rfl (congrArg Value.bool (decide_eq_false (by
    show ¬ ((if _ > _ then _ else _) > _)
    split <;> omega))) ?_
  refine wl_nil ?_
  repeat (first | refine zA ?_ | refine zB ?_ | refine zC ?_ | refine zD ?_ | refine zE ?_ | refine zF ?_ | refine zG ?_ | refine zH ?_ | refine zI ?_ | refine zJ ?_ | refine zK ?_ | refine zL ?_ | refine zM rfl ?_ | refine zN ?_ | refine zO ?_ | refine zP ?_ | refine zQ ?_ | refine zR rfl ?_ | refine zS rfl ?_ | refine zT Tryz.mixed (by kernel_rfl) ?_)
  refine wl_pure Tryz.hT rfl rfl rfl ?_
  refine wl_nil ?_
  repeat (first | refine zA ?_ | refine zB ?_ | refine zC ?_ | refine zD ?_ | refine zE ?_ | refine zF ?_ | refine zG ?_ | refine zH ?_ | refine zI ?_ | refine zJ ?_ | refine zK ?_ | refine zL ?_ | refine zM rfl ?_ | refine zN ?_ | refine zO ?_ | refine zP ?_ | refine zQ ?_ | refine zR rfl ?_ | refine zS rfl ?_ | refine zT Tryz.mixed (by kernel_rfl) ?_)
  exact ne_ret1 Tryz.hT rfl (.tmp rfl) () rfl trivial fun W _ => NewBx.nil _ _
theorem pwrong1_gives (q : Rat) (h : szQ q 36) (W : World) (hv : MaxP W) (ht : TabP W) :
    CallsR Tryz.prog 142 #[str (numS q)] W (fun _ : Unit => .bool false) (fun _ => True) (fun _ => []) := by
  refine calls_enter (args := [str (numS q)]) Tryz.func142 rfl rfl rfl ?_
  repeat (first | refine zA ?_ | refine zB ?_ | refine zC ?_ | refine zD ?_ | refine zE ?_ | refine zF ?_ | refine zG ?_ | refine zH ?_ | refine zI ?_ | refine zJ ?_ | refine zK ?_ | refine zL ?_ | refine zM rfl ?_ | refine zN ?_ | refine zO ?_ | refine zP ?_ | refine zQ ?_ | refine zR rfl ?_ | refine zS rfl ?_ | refine zT Tryz.mixed (by kernel_rfl) ?_)
  refine wl_pure Tryz.hT rfl rfl rfl ?_
  refine wl_nil ?_
  repeat (first | refine zA ?_ | refine zB ?_ | refine zC ?_ | refine zD ?_ | refine zE ?_ | refine zF ?_ | refine zG ?_ | refine zH ?_ | refine zI ?_ | refine zJ ?_ | refine zK ?_ | refine zL ?_ | refine zM rfl ?_ | refine zN ?_ | refine zO ?_ | refine zP ?_ | refine zQ ?_ | refine zR rfl ?_ | refine zS rfl ?_ | refine zT Tryz.mixed (by kernel_rfl) ?_)
  refine wl_pure Tryz.hT rfl rfl rfl ?_
  refine wl_call1 rfl rfl rfl rfl rfl rfl (by kernel_rfl) (fun W hp => pcheck_gives q h W (hv.hp hp) (ht.hp hp)) ?_
  iterate 2 refine wl_pure Tryz.hT rfl rfl rfl ?_
  refine wl_nil ?_
  repeat (first | refine zA ?_ | refine zB ?_ | refine zC ?_ | refine zD ?_ | refine zE ?_ | refine zF ?_ | refine zG ?_ | refine zH ?_ | refine zI ?_ | refine zJ ?_ | refine zK ?_ | refine zL ?_ | refine zM rfl ?_ | refine zN ?_ | refine zO ?_ | refine zP ?_ | refine zQ ?_ | refine zR rfl ?_ | refine zS rfl ?_ | refine zT Tryz.mixed (by kernel_rfl) ?_)
  exact ne_ret1 Tryz.hT rfl (.tmp rfl) () rfl trivial fun W _ => NewBx.nil _ _
theorem pwrong_gives (x y : Rat) (hx : szQ x 36) (hy : szQ y 36) (b : Nat) (W : World) (hr : RowAt W b 0 [str (numS x), str (numS y)]) (hv : MaxP W) (ht : TabP W) :
    CallsR Tryz.prog 90 #[.slice (some ⟨b, 0, none⟩) 2 2] W (fun _ : Unit => .bool false) (fun _ => True) (fun _ => []) := by
  refine calls_enter (args := [.slice (some ⟨b, 0, none⟩) 2 2]) Tryz.func90 rfl rfl rfl ?_
  repeat (first | refine zA ?_ | refine zB ?_ | refine zC ?_ | refine zD ?_ | refine zE ?_ | refine zF ?_ | refine zG ?_ | refine zH ?_ | refine zI ?_ | refine zJ ?_ | refine zK ?_ | refine zL ?_ | refine zM rfl ?_ | refine zN ?_ | refine zO ?_ | refine zP ?_ | refine zQ ?_ | refine zR rfl ?_ | refine zS rfl ?_ | refine zT Tryz.mixed (by kernel_rfl) ?_)
  refine wl_pure Tryz.hT rfl rfl rfl ?_
  refine wl_nil ?_
  repeat (first | refine zA ?_ | refine zB ?_ | refine zC ?_ | refine zD ?_ | refine zE ?_ | refine zF ?_ | refine zG ?_ | refine zH ?_ | refine zI ?_ | refine zJ ?_ | refine zK ?_ | refine zL ?_ | refine zM rfl ?_ | refine zN ?_ | refine zO ?_ | refine zP ?_ | refine zQ ?_ | refine zR rfl ?_ | refine zS rfl ?_ | refine zT Tryz.mixed (by kernel_rfl) ?_)
  refine wl_pure Tryz.hT rfl rfl rfl ?_
  refine wl_call1 rfl rfl rfl rfl rfl rfl (by kernel_rfl) (fun W hp => containsQ_gives 142 [] (by kernel_rfl) (fun _ => false) [x, y] W (some ⟨b, 0, none⟩) 2 (show 2 < 4611686018427387904 by decide) (.inr ⟨b, 0, rfl, hr.hp hp⟩)
    (fun t h1 W' hb => by
      have hz : szQ t 36 := by
        rcases List.mem_cons.1 h1 with rfl | h1
        · exact hx
        · obtain rfl := List.mem_singleton.1 h1; exact hy
      exact pwrong1_gives t hz W' ((hv.hp hp).below hb) ((ht.hp hp).below hb))) ?_
  refine wl_pure Tryz.hT rfl rfl rfl ?_
  refine wl_nil ?_
  repeat (first | refine zA ?_ | refine zB ?_ | refine zC ?_ | refine zD ?_ | refine zE ?_ | refine zF ?_ | refine zG ?_ | refine zH ?_ | refine zI ?_ | refine zJ ?_ | refine zK ?_ | refine zL ?_ | refine zM rfl ?_ | refine zN ?_ | refine zO ?_ | refine zP ?_ | refine zQ ?_ | refine zR rfl ?_ | refine zS rfl ?_ | refine zT Tryz.mixed (by kernel_rfl) ?_)
  exact ne_ret1 Tryz.hT rfl (.tmp rfl) () rfl trivial fun W _ => NewBx.nil _ _
abbrev plV (a b c : Rat) : Value := .agg #[str (numS a), str (numS b), str (numS c)]
set_option maxHeartbeats 8000000 in
theorem pCheck_gives (a b c : Rat) (ha : szQ a 36) (hb : szQ b 36) (hc : szQ c 36) (W : World) (hv : MaxP W) (ht : TabP W) :
    CallsR Tryz.prog 89 #[plV a b c] W (fun _ : Unit => .int .i64 0) (fun _ => True) (fun _ => []) := by
  have oa := ha.ok (by decide)
  have ob := hb.ok (by decide)
  have oc := hc.ok (by decide)
  have la := numS_len oa
  have lb := numS_len ob
  have lc := numS_len oc
  refine calls_enter (args := [plV a b c]) Tryz.func89 rfl rfl rfl ?_
  repeat (first | refine zA ?_ | refine zB ?_ | refine zC ?_ | refine zD ?_ | refine zE ?_ | refine zF ?_ | refine zG ?_ | refine zH ?_ | refine zI ?_ | refine zJ ?_ | refine zK ?_ | refine zL ?_ | refine zM rfl ?_ | refine zN ?_ | refine zO ?_ | refine zP ?_ | refine zQ ?_ | refine zR rfl ?_ | refine zS rfl ?_ | refine zT Tryz.mixed (by kernel_rfl) ?_)
  (refine wl_box rfl rfl rfl rfl ?_; intro)
  refine wl_pure Tryz.hT rfl rfl rfl ?_
  refine wl_nil ?_
  rename_i b1
  repeat (first | refine zA ?_ | refine zB ?_ | refine zC ?_ | refine zD ?_ | refine zE ?_ | refine zF ?_ | refine zG ?_ | refine zH ?_ | refine zI ?_ | refine zJ ?_ | refine zK ?_ | refine zL ?_ | refine zM rfl ?_ | refine zN ?_ | refine zO ?_ | refine zP ?_ | refine zQ ?_ | refine zR rfl ?_ | refine zS rfl ?_ | refine zT Tryz.mixed (by kernel_rfl) ?_)
  refine wl_pure Tryz.hT rfl rfl rfl ?_
  (first | refine wl_loadBx 0 Tryz.hT rfl rfl rfl rfl rfl rfl rfl rfl ?_ | refine wl_loadBx 1 Tryz.hT rfl rfl rfl rfl rfl rfl rfl rfl ?_ | refine wl_loadBx 2 Tryz.hT rfl rfl rfl rfl rfl rfl rfl rfl ?_ | refine wl_loadBx 3 Tryz.hT rfl rfl rfl rfl rfl rfl rfl rfl ?_ | refine wl_loadBx 4 Tryz.hT rfl rfl rfl rfl rfl rfl rfl rfl ?_)
  refine wl_pure Tryz.hT rfl rfl rfl ?_
  (first | refine wl_loadBx 0 Tryz.hT rfl rfl rfl rfl rfl rfl rfl rfl ?_ | refine wl_loadBx 1 Tryz.hT rfl rfl rfl rfl rfl rfl rfl rfl ?_ | refine wl_loadBx 2 Tryz.hT rfl rfl rfl rfl rfl rfl rfl rfl ?_ | refine wl_loadBx 3 Tryz.hT rfl rfl rfl rfl rfl rfl rfl rfl ?_ | refine wl_loadBx 4 Tryz.hT rfl rfl rfl rfl rfl rfl rfl rfl ?_)
  refine wl_pure Tryz.hT rfl rfl rfl ?_
  (first | refine wl_loadBx 0 Tryz.hT rfl rfl rfl rfl rfl rfl rfl rfl ?_ | refine wl_loadBx 1 Tryz.hT rfl rfl rfl rfl rfl rfl rfl rfl ?_ | refine wl_loadBx 2 Tryz.hT rfl rfl rfl rfl rfl rfl rfl rfl ?_ | refine wl_loadBx 3 Tryz.hT rfl rfl rfl rfl rfl rfl rfl rfl ?_ | refine wl_loadBx 4 Tryz.hT rfl rfl rfl rfl rfl rfl rfl rfl ?_)
  refine wl_buildA (.agg #[str [], str [], str []]) Tryz.underlying167 (fun W => by kernel_rfl) Tryz.sizeOf28 rfl rfl rfl rfl rfl ?_
  refine wl_pure Tryz.hT rfl rfl rfl ?_
  refine wl_nil ?_
  refine ne_then ?_
  try refine wc_seq ?_
  refine wc_cutS (X := Unit) (fun _ => [(1, selfP b1), (2, .int .i64 0)]) (fun _ => [⟨b1, 57, (plV a b c).cells.toList, true, none⟩]) (fun _ => True) ?_ ?_
  · refine wc_block ?_
    refine wc_loop (X := Nat) (fun i => [(1, selfP b1), (2, .int .i64 0), (15, plV a b c), (16, .int .i64 (i : Nat))]) (fun _ => [⟨b1, 57, (plV a b c).cells.toList, true, none⟩]) (fun i => i ≤ 3) (fun i => 3 - i) 0 (by decide) ⟨rfl, rfl, rfl, rfl, trivial⟩ [] rfl ?_
    intro i hi
    have hi : i = 0 ∨ i = 1 ∨ i = 2 ∨ i = 3 := by have : i ≤ 3 := hi; omega
    rcases hi with rfl | rfl | rfl | rfl
    · repeat (first | refine zA ?_ | refine zB ?_ | refine zC ?_ | refine zD ?_ | refine zE ?_ | refine zF ?_ | refine zG ?_ | refine zH ?_ | refine zI ?_ | refine zJ ?_ | refine zK ?_ | refine zL ?_ | refine zM rfl ?_ | refine zN ?_ | refine zO ?_ | refine zP ?_ | refine zQ ?_ | refine zR rfl ?_ | refine zS rfl ?_ | refine zT Tryz.mixed (by kernel_rfl) ?_)
      refine wl_pure Tryz.hT rfl rfl rfl ?_
      refine wl_nil ?_
      repeat (first | refine zA ?_ | refine zB ?_ | refine zC ?_ | refine zD ?_ | refine zE ?_ | refine zF ?_ | refine zG ?_ | refine zH ?_ | refine zI ?_ | refine zJ ?_ | refine zK ?_ | refine zL ?_ | refine zM rfl ?_ | refine zN ?_ | refine zO ?_ | refine zP ?_ | refine zQ ?_ | refine zR rfl ?_ | refine zS rfl ?_ | refine zT Tryz.mixed (by kernel_rfl) ?_)
      refine wl_index Tryz.underlying167 Tryz.isAgg28 Tryz.sizeOf28 rfl rfl rfl rfl rfl (by decide) (v := str (numS a)) rfl ?_
      refine wl_pure Tryz.hT rfl rfl rfl ?_
      refine wl_nil ?_
      repeat (first | refine zA ?_ | refine zB ?_ | refine zC ?_ | refine zD ?_ | refine zE ?_ | refine zF ?_ | refine zG ?_ | refine zH ?_ | refine zI ?_ | refine zJ ?_ | refine zK ?_ | refine zL ?_ | refine zM rfl ?_ | refine zN ?_ | refine zO ?_ | refine zP ?_ | refine zQ ?_ | refine zR rfl ?_ | refine zS rfl ?_ | refine zT Tryz.mixed (by kernel_rfl) ?_)
      refine wl_pure Tryz.hT rfl rfl rfl ?_
      refine wl_call1 rfl rfl rfl rfl rfl rfl (by kernel_rfl) (fun W hp => (rcheck_gives (numS a) (by omega) W (hv.hp hp) (ht.hp hp)).cast (by rw [rd_okQ oa])) ?_
      refine wl_pure Tryz.hT rfl rfl rfl ?_
      refine wl_nil ?_
      repeat (first | refine zA ?_ | refine zB ?_ | refine zC ?_ | refine zD ?_ | refine zE ?_ | refine zF ?_ | refine zG ?_ | refine zH ?_ | refine zI ?_ | refine zJ ?_ | refine zK ?_ | refine zL ?_ | refine zM rfl ?_ | refine zN ?_ | refine zO ?_ | refine zP ?_ | refine zQ ?_ | refine zR rfl ?_ | refine zS rfl ?_ | refine zT Tryz.mixed (by kernel_rfl) ?_)
      iterate 2 refine wl_pure Tryz.hT rfl rfl rfl ?_
      refine wl_nil ?_
      repeat (first | refine zA ?_ | refine zB ?_ | refine zC ?_ | refine zD ?_ | refine zE ?_ | refine zF ?_ | refine zG ?_ | refine zH ?_ | refine zI ?_ | refine zJ ?_ | refine zK ?_ | refine zL ?_ | refine zM rfl ?_ | refine zN ?_ | refine zO ?_ | refine zP ?_ | refine zQ ?_ | refine zR rfl ?_ | refine zS rfl ?_ | refine zT Tryz.mixed (by kernel_rfl) ?_)
      iterate 2 refine wl_pure Tryz.hT rfl rfl rfl ?_
      refine wl_nil ?_
      repeat (first | refine zA ?_ | refine zB ?_ | refine zC ?_ | refine zD ?_ | refine zE ?_ | refine zF ?_ | refine zG ?_ | refine zH ?_ | refine zI ?_ | refine zJ ?_ | refine zK ?_ | refine zL ?_ | refine zM rfl ?_ | refine zN ?_ | refine zO ?_ | refine zP ?_ | refine zQ ?_ | refine zR rfl ?_ | refine zS rfl ?_ | refine zT Tryz.mixed (by kernel_rfl) ?_)
      exact ne_loop 1 (by decide) (by decide) ⟨rfl, rfl, rfl, rfl, trivial⟩ [] rfl
    · repeat (first | refine zA ?_ | refine zB ?_ | refine zC ?_ | refine zD ?_ | refine zE ?_ | refine zF ?_ | refine zG ?_ | refine zH ?_ | refine zI ?_ | refine zJ ?_ | refine zK ?_ | refine zL ?_ | refine zM rfl ?_ | refine zN ?_ | refine zO ?_ | refine zP ?_ | refine zQ ?_ | refine zR rfl ?_ | refine zS rfl ?_ | refine zT Tryz.mixed (by kernel_rfl) ?_)
      refine wl_pure Tryz.hT rfl rfl rfl ?_
      refine wl_nil ?_
      repeat (first | refine zA ?_ | refine zB ?_ | refine zC ?_ | refine zD ?_ | refine zE ?_ | refine zF ?_ | refine zG ?_ | refine zH ?_ | refine zI ?_ | refine zJ ?_ | refine zK ?_ | refine zL ?_ | refine zM rfl ?_ | refine zN ?_ | refine zO ?_ | refine zP ?_ | refine zQ ?_ | refine zR rfl ?_ | refine zS rfl ?_ | refine zT Tryz.mixed (by kernel_rfl) ?_)
      refine wl_index Tryz.underlying167 Tryz.isAgg28 Tryz.sizeOf28 rfl rfl rfl rfl rfl (by decide) (v := str (numS b)) rfl ?_
      refine wl_pure Tryz.hT rfl rfl rfl ?_
      refine wl_nil ?_
      repeat (first | refine zA ?_ | refine zB ?_ | refine zC ?_ | refine zD ?_ | refine zE ?_ | refine zF ?_ | refine zG ?_ | refine zH ?_ | refine zI ?_ | refine zJ ?_ | refine zK ?_ | refine zL ?_ | refine zM rfl ?_ | refine zN ?_ | refine zO ?_ | refine zP ?_ | refine zQ ?_ | refine zR rfl ?_ | refine zS rfl ?_ | refine zT Tryz.mixed (by kernel_rfl) ?_)
      refine wl_pure Tryz.hT rfl rfl rfl ?_
      refine wl_call1 rfl rfl rfl rfl rfl rfl (by kernel_rfl) (fun W hp => (rcheck_gives (numS b) (by omega) W (hv.hp hp) (ht.hp hp)).cast (by rw [rd_okQ ob])) ?_
      refine wl_pure Tryz.hT rfl rfl rfl ?_
      refine wl_nil ?_
      repeat (first | refine zA ?_ | refine zB ?_ | refine zC ?_ | refine zD ?_ | refine zE ?_ | refine zF ?_ | refine zG ?_ | refine zH ?_ | refine zI ?_ | refine zJ ?_ | refine zK ?_ | refine zL ?_ | refine zM rfl ?_ | refine zN ?_ | refine zO ?_ | refine zP ?_ | refine zQ ?_ | refine zR rfl ?_ | refine zS rfl ?_ | refine zT Tryz.mixed (by kernel_rfl) ?_)
      iterate 2 refine wl_pure Tryz.hT rfl rfl rfl ?_
      refine wl_nil ?_
      repeat (first | refine zA ?_ | refine zB ?_ | refine zC ?_ | refine zD ?_ | refine zE ?_ | refine zF ?_ | refine zG ?_ | refine zH ?_ | refine zI ?_ | refine zJ ?_ | refine zK ?_ | refine zL ?_ | refine zM rfl ?_ | refine zN ?_ | refine zO ?_ | refine zP ?_ | refine zQ ?_ | refine zR rfl ?_ | refine zS rfl ?_ | refine zT Tryz.mixed (by kernel_rfl) ?_)
      iterate 2 refine wl_pure Tryz.hT rfl rfl rfl ?_
      refine wl_nil ?_
      repeat (first | refine zA ?_ | refine zB ?_ | refine zC ?_ | refine zD ?_ | refine zE ?_ | refine zF ?_ | refine zG ?_ | refine zH ?_ | refine zI ?_ | refine zJ ?_ | refine zK ?_ | refine zL ?_ | refine zM rfl ?_ | refine zN ?_ | refine zO ?_ | refine zP ?_ | refine zQ ?_ | refine zR rfl ?_ | refine zS rfl ?_ | refine zT Tryz.mixed (by kernel_rfl) ?_)
      exact ne_loop 2 (by decide) (by decide) ⟨rfl, rfl, rfl, rfl, trivial⟩ [] rfl
    · repeat (first | refine zA ?_ | refine zB ?_ | refine zC ?_ | refine zD ?_ | refine zE ?_ | refine zF ?_ | refine zG ?_ | refine zH ?_ | refine zI ?_ | refine zJ ?_ | refine zK ?_ | refine zL ?_ | refine zM rfl ?_ | refine zN ?_ | refine zO ?_ | refine zP ?_ | refine zQ ?_ | refine zR rfl ?_ | refine zS rfl ?_ | refine zT Tryz.mixed (by kernel_rfl) ?_)
      refine wl_pure Tryz.hT rfl rfl rfl ?_
      refine wl_nil ?_
      repeat (first | refine zA ?_ | refine zB ?_ | refine zC ?_ | refine zD ?_ | refine zE ?_ | refine zF ?_ | refine zG ?_ | refine zH ?_ | refine zI ?_ | refine zJ ?_ | refine zK ?_ | refine zL ?_ | refine zM rfl ?_ | refine zN ?_ | refine zO ?_ | refine zP ?_ | refine zQ ?_ | refine zR rfl ?_ | refine zS rfl ?_ | refine zT Tryz.mixed (by kernel_rfl) ?_)
      refine wl_index Tryz.underlying167 Tryz.isAgg28 Tryz.sizeOf28 rfl rfl rfl rfl rfl (by decide) (v := str (numS c)) rfl ?_
      refine wl_pure Tryz.hT rfl rfl rfl ?_
      refine wl_nil ?_
      repeat (first | refine zA ?_ | refine zB ?_ | refine zC ?_ | refine zD ?_ | refine zE ?_ | refine zF ?_ | refine zG ?_ | refine zH ?_ | refine zI ?_ | refine zJ ?_ | refine zK ?_ | refine zL ?_ | refine zM rfl ?_ | refine zN ?_ | refine zO ?_ | refine zP ?_ | refine zQ ?_ | refine zR rfl ?_ | refine zS rfl ?_ | refine zT Tryz.mixed (by kernel_rfl) ?_)
      refine wl_pure Tryz.hT rfl rfl rfl ?_
      refine wl_call1 rfl rfl rfl rfl rfl rfl (by kernel_rfl) (fun W hp => (rcheck_gives (numS c) (by omega) W (hv.hp hp) (ht.hp hp)).cast (by rw [rd_okQ oc])) ?_
      refine wl_pure Tryz.hT rfl rfl rfl ?_
      refine wl_nil ?_
      repeat (first | refine zA ?_ | refine zB ?_ | refine zC ?_ | refine zD ?_ | refine zE ?_ | refine zF ?_ | refine zG ?_ | refine zH ?_ | refine zI ?_ | refine zJ ?_ | refine zK ?_ | refine zL ?_ | refine zM rfl ?_ | refine zN ?_ | refine zO ?_ | refine zP ?_ | refine zQ ?_ | refine zR rfl ?_ | refine zS rfl ?_ | refine zT Tryz.mixed (by kernel_rfl) ?_)
      iterate 2 refine wl_pure Tryz.hT rfl rfl rfl ?_
      refine wl_nil ?_
      repeat (first | refine zA ?_ | refine zB ?_ | refine zC ?_ | refine zD ?_ | refine zE ?_ | refine zF ?_ | refine zG ?_ | refine zH ?_ | refine zI ?_ | refine zJ ?_ | refine zK ?_ | refine zL ?_ | refine zM rfl ?_ | refine zN ?_ | refine zO ?_ | refine zP ?_ | refine zQ ?_ | refine zR rfl ?_ | refine zS rfl ?_ | refine zT Tryz.mixed (by kernel_rfl) ?_)
      iterate 2 refine wl_pure Tryz.hT rfl rfl rfl ?_
      refine wl_nil ?_
      repeat (first | refine zA ?_ | refine zB ?_ | refine zC ?_ | refine zD ?_ | refine zE ?_ | refine zF ?_ | refine zG ?_ | refine zH ?_ | refine zI ?_ | refine zJ ?_ | refine zK ?_ | refine zL ?_ | refine zM rfl ?_ | refine zN ?_ | refine zO ?_ | refine zP ?_ | refine zQ ?_ | refine zR rfl ?_ | refine zS rfl ?_ | refine zT Tryz.mixed (by kernel_rfl) ?_)
      exact ne_loop 3 (by decide) (by decide) ⟨rfl, rfl, rfl, rfl, trivial⟩ [] rfl
    · repeat (first | refine zA ?_ | refine zB ?_ | refine zC ?_ | refine zD ?_ | refine zE ?_ | refine zF ?_ | refine zG ?_ | refine zH ?_ | refine zI ?_ | refine zJ ?_ | refine zK ?_ | refine zL ?_ | refine zM rfl ?_ | refine zN ?_ | refine zO ?_ | refine zP ?_ | refine zQ ?_ | refine zR rfl ?_ | refine zS rfl ?_ | refine zT Tryz.mixed (by kernel_rfl) ?_)
      refine wl_pure Tryz.hT rfl rfl rfl ?_
      refine wl_nil ?_
      repeat (first | refine zA ?_ | refine zB ?_ | refine zC ?_ | refine zD ?_ | refine zE ?_ | refine zF ?_ | refine zG ?_ | refine zH ?_ | refine zI ?_ | refine zJ ?_ | refine zK ?_ | refine zL ?_ | refine zM rfl ?_ | refine zN ?_ | refine zO ?_ | refine zP ?_ | refine zQ ?_ | refine zR rfl ?_ | refine zS rfl ?_ | refine zT Tryz.mixed (by kernel_rfl) ?_)
      exact ne_cut () trivial ⟨rfl, rfl, trivial⟩ [] rfl
  intro _ _
  repeat (first | refine zA ?_ | refine zB ?_ | refine zC ?_ | refine zD ?_ | refine zE ?_ | refine zF ?_ | refine zG ?_ | refine zH ?_ | refine zI ?_ | refine zJ ?_ | refine zK ?_ | refine zL ?_ | refine zM rfl ?_ | refine zN ?_ | refine zO ?_ | refine zP ?_ | refine zQ ?_ | refine zR rfl ?_ | refine zS rfl ?_ | refine zT Tryz.mixed (by kernel_rfl) ?_)
  refine wl_pure Tryz.hT rfl rfl rfl ?_
  (first | refine wl_loadBx 0 Tryz.hT rfl rfl rfl rfl rfl rfl rfl rfl ?_ | refine wl_loadBx 1 Tryz.hT rfl rfl rfl rfl rfl rfl rfl rfl ?_ | refine wl_loadBx 2 Tryz.hT rfl rfl rfl rfl rfl rfl rfl rfl ?_ | refine wl_loadBx 3 Tryz.hT rfl rfl rfl rfl rfl rfl rfl rfl ?_ | refine wl_loadBx 4 Tryz.hT rfl rfl rfl rfl rfl rfl rfl rfl ?_)
  refine wl_pure Tryz.hT rfl rfl rfl ?_
  (first | refine wl_loadBx 0 Tryz.hT rfl rfl rfl rfl rfl rfl rfl rfl ?_ | refine wl_loadBx 1 Tryz.hT rfl rfl rfl rfl rfl rfl rfl rfl ?_ | refine wl_loadBx 2 Tryz.hT rfl rfl rfl rfl rfl rfl rfl rfl ?_ | refine wl_loadBx 3 Tryz.hT rfl rfl rfl rfl rfl rfl rfl rfl ?_ | refine wl_loadBx 4 Tryz.hT rfl rfl rfl rfl rfl rfl rfl rfl ?_)
  refine wl_pure Tryz.hT rfl rfl rfl ?_
  (first | refine wl_loadBx 0 Tryz.hT rfl rfl rfl rfl rfl rfl rfl rfl ?_ | refine wl_loadBx 1 Tryz.hT rfl rfl rfl rfl rfl rfl rfl rfl ?_ | refine wl_loadBx 2 Tryz.hT rfl rfl rfl rfl rfl rfl rfl rfl ?_ | refine wl_loadBx 3 Tryz.hT rfl rfl rfl rfl rfl rfl rfl rfl ?_ | refine wl_loadBx 4 Tryz.hT rfl rfl rfl rfl rfl rfl rfl rfl ?_)
  refine wl_buildA (.agg #[str [], str [], str []]) Tryz.underlying167 (fun W => by kernel_rfl) Tryz.sizeOf28 rfl rfl rfl rfl rfl ?_
  refine wl_pure Tryz.hT rfl rfl rfl ?_
  refine wl_nil ?_
  repeat (first | refine zA ?_ | refine zB ?_ | refine zC ?_ | refine zD ?_ | refine zE ?_ | refine zF ?_ | refine zG ?_ | refine zH ?_ | refine zI ?_ | refine zJ ?_ | refine zK ?_ | refine zL ?_ | refine zM rfl ?_ | refine zN ?_ | refine zO ?_ | refine zP ?_ | refine zQ ?_ | refine zR rfl ?_ | refine zS rfl ?_ | refine zT Tryz.mixed (by kernel_rfl) ?_)
  refine wc_loop (X := Nat) (fun i => [(1, selfP b1), (2, .int .i64 0), (31, plV a b c), (32, .int .i64 (i : Nat))]) (fun _ => [⟨b1, 57, (plV a b c).cells.toList, true, none⟩]) (fun i => i ≤ 3) (fun i => 3 - i) 0 (by decide) ⟨rfl, rfl, rfl, rfl, trivial⟩ [] rfl ?_
  intro i hi
  have hi : i = 0 ∨ i = 1 ∨ i = 2 ∨ i = 3 := by have : i ≤ 3 := hi; omega
  rcases hi with rfl | rfl | rfl | rfl
  · repeat (first | refine zA ?_ | refine zB ?_ | refine zC ?_ | refine zD ?_ | refine zE ?_ | refine zF ?_ | refine zG ?_ | refine zH ?_ | refine zI ?_ | refine zJ ?_ | refine zK ?_ | refine zL ?_ | refine zM rfl ?_ | refine zN ?_ | refine zO ?_ | refine zP ?_ | refine zQ ?_ | refine zR rfl ?_ | refine zS rfl ?_ | refine zT Tryz.mixed (by kernel_rfl) ?_)
    refine wl_pure Tryz.hT rfl rfl rfl ?_
    refine wl_nil ?_
    repeat (first | refine zA ?_ | refine zB ?_ | refine zC ?_ | refine zD ?_ | refine zE ?_ | refine zF ?_ | refine zG ?_ | refine zH ?_ | refine zI ?_ | refine zJ ?_ | refine zK ?_ | refine zL ?_ | refine zM rfl ?_ | refine zN ?_ | refine zO ?_ | refine zP ?_ | refine zQ ?_ | refine zR rfl ?_ | refine zS rfl ?_ | refine zT Tryz.mixed (by kernel_rfl) ?_)
    refine wl_index Tryz.underlying167 Tryz.isAgg28 Tryz.sizeOf28 rfl rfl rfl rfl rfl (by decide) (v := str (numS a)) rfl ?_
    refine wl_pure Tryz.hT rfl rfl rfl ?_
    refine wl_nil ?_
    repeat (first | refine zA ?_ | refine zB ?_ | refine zC ?_ | refine zD ?_ | refine zE ?_ | refine zF ?_ | refine zG ?_ | refine zH ?_ | refine zI ?_ | refine zJ ?_ | refine zK ?_ | refine zL ?_ | refine zM rfl ?_ | refine zN ?_ | refine zO ?_ | refine zP ?_ | refine zQ ?_ | refine zR rfl ?_ | refine zS rfl ?_ | refine zT Tryz.mixed (by kernel_rfl) ?_)
    refine wl_pure Tryz.hT rfl rfl rfl ?_
    refine wl_call1 rfl rfl rfl rfl rfl rfl (by kernel_rfl) (fun W hp => pcheck_gives a ha W (hv.hp hp) (ht.hp hp)) ?_
    refine wl_pure Tryz.hT rfl rfl rfl ?_
    refine wl_nil ?_
    repeat (first | refine zA ?_ | refine zB ?_ | refine zC ?_ | refine zD ?_ | refine zE ?_ | refine zF ?_ | refine zG ?_ | refine zH ?_ | refine zI ?_ | refine zJ ?_ | refine zK ?_ | refine zL ?_ | refine zM rfl ?_ | refine zN ?_ | refine zO ?_ | refine zP ?_ | refine zQ ?_ | refine zR rfl ?_ | refine zS rfl ?_ | refine zT Tryz.mixed (by kernel_rfl) ?_)
    iterate 2 refine wl_pure Tryz.hT rfl rfl rfl ?_
    refine wl_nil ?_
    repeat (first | refine zA ?_ | refine zB ?_ | refine zC ?_ | refine zD ?_ | refine zE ?_ | refine zF ?_ | refine zG ?_ | refine zH ?_ | refine zI ?_ | refine zJ ?_ | refine zK ?_ | refine zL ?_ | refine zM rfl ?_ | refine zN ?_ | refine zO ?_ | refine zP ?_ | refine zQ ?_ | refine zR rfl ?_ | refine zS rfl ?_ | refine zT Tryz.mixed (by kernel_rfl) ?_)
    iterate 2 refine wl_pure Tryz.hT rfl rfl rfl ?_
    refine wl_nil ?_
    repeat (first | refine zA ?_ | refine zB ?_ | refine zC ?_ | refine zD ?_ | refine zE ?_ | refine zF ?_ | refine zG ?_ | refine zH ?_ | refine zI ?_ | refine zJ ?_ | refine zK ?_ | refine zL ?_ | refine zM rfl ?_ | refine zN ?_ | refine zO ?_ | refine zP ?_ | refine zQ ?_ | refine zR rfl ?_ | refine zS rfl ?_ | refine zT Tryz.mixed (by kernel_rfl) ?_)
    exact ne_loop 1 (by decide) (by decide) ⟨rfl, rfl, rfl, rfl, trivial⟩ [] rfl
  · repeat (first | refine zA ?_ | refine zB ?_ | refine zC ?_ | refine zD ?_ | refine zE ?_ | refine zF ?_ | refine zG ?_ | refine zH ?_ | refine zI ?_ | refine zJ ?_ | refine zK ?_ | refine zL ?_ | refine zM rfl ?_ | refine zN ?_ | refine zO ?_ | refine zP ?_ | refine zQ ?_ | refine zR rfl ?_ | refine zS rfl ?_ | refine zT Tryz.mixed (by kernel_rfl) ?_)
    refine wl_pure Tryz.hT rfl rfl rfl ?_
    refine wl_nil ?_
    repeat (first | refine zA ?_ | refine zB ?_ | refine zC ?_ | refine zD ?_ | refine zE ?_ | refine zF ?_ | refine zG ?_ | refine zH ?_ | refine zI ?_ | refine zJ ?_ | refine zK ?_ | refine zL ?_ | refine zM rfl ?_ | refine zN ?_ | refine zO ?_ | refine zP ?_ | refine zQ ?_ | refine zR rfl ?_ | refine zS rfl ?_ | refine zT Tryz.mixed (by kernel_rfl) ?_)
    refine wl_index Tryz.underlying167 Tryz.isAgg28 Tryz.sizeOf28 rfl rfl rfl rfl rfl (by decide) (v := str (numS b)) rfl ?_
    refine wl_pure Tryz.hT rfl rfl rfl ?_
    refine wl_nil ?_
    repeat (first | refine zA ?_ | refine zB ?_ | refine zC ?_ | refine zD ?_ | refine zE ?_ | refine zF ?_ | refine zG ?_ | refine zH ?_ | refine zI ?_ | refine zJ ?_ | refine zK ?_ | refine zL ?_ | refine zM rfl ?_ | refine zN ?_ | refine zO ?_ | refine zP ?_ | refine zQ ?_ | refine zR rfl ?_ | refine zS rfl ?_ | refine zT Tryz.mixed (by kernel_rfl) ?_)
    refine wl_pure Tryz.hT rfl rfl rfl ?_
    refine wl_call1 rfl rfl rfl rfl rfl rfl (by kernel_rfl) (fun W hp => pcheck_gives b hb W (hv.hp hp) (ht.hp hp)) ?_
    refine wl_pure Tryz.hT rfl rfl rfl ?_
    refine wl_nil ?_
    repeat (first | refine zA ?_ | refine zB ?_ | refine zC ?_ | refine zD ?_ | refine zE ?_ | refine zF ?_ | refine zG ?_ | refine zH ?_ | refine zI ?_ | refine zJ ?_ | refine zK ?_ | refine zL ?_ | refine zM rfl ?_ | refine zN ?_ | refine zO ?_ | refine zP ?_ | refine zQ ?_ | refine zR rfl ?_ | refine zS rfl ?_ | refine zT Tryz.mixed (by kernel_rfl) ?_)
    iterate 2 refine wl_pure Tryz.hT rfl rfl rfl ?_
    refine wl_nil ?_
    repeat (first | refine zA ?_ | refine zB ?_ | refine zC ?_ | refine zD ?_ | refine zE ?_ | refine zF ?_ | refine zG ?_ | refine zH ?_ | refine zI ?_ | refine zJ ?_ | refine zK ?_ | refine zL ?_ | refine zM rfl ?_ | refine zN ?_ | refine zO ?_ | refine zP ?_ | refine zQ ?_ | refine zR rfl ?_ | refine zS rfl ?_ | refine zT Tryz.mixed (by kernel_rfl) ?_)
    iterate 2 refine wl_pure Tryz.hT rfl rfl rfl ?_
    refine wl_nil ?_
    repeat (first | refine zA ?_ | refine zB ?_ | refine zC ?_ | refine zD ?_ | refine zE ?_ | refine zF ?_ | refine zG ?_ | refine zH ?_ | refine zI ?_ | refine zJ ?_ | refine zK ?_ | refine zL ?_ | refine zM rfl ?_ | refine zN ?_ | refine zO ?_ | refine zP ?_ | refine zQ ?_ | refine zR rfl ?_ | refine zS rfl ?_ | refine zT Tryz.mixed (by kernel_rfl) ?_)
    exact ne_loop 2 (by decide) (by decide) ⟨rfl, rfl, rfl, rfl, trivial⟩ [] rfl
  · repeat (first | refine zA ?_ | refine zB ?_ | refine zC ?_ | refine zD ?_ | refine zE ?_ | refine zF ?_ | refine zG ?_ | refine zH ?_ | refine zI ?_ | refine zJ ?_ | refine zK ?_ | refine zL ?_ | refine zM rfl ?_ | refine zN ?_ | refine zO ?_ | refine zP ?_ | refine zQ ?_ | refine zR rfl ?_ | refine zS rfl ?_ | refine zT Tryz.mixed (by kernel_rfl) ?_)
    refine wl_pure Tryz.hT rfl rfl rfl ?_
    refine wl_nil ?_
    repeat (first | refine zA ?_ | refine zB ?_ | refine zC ?_ | refine zD ?_ | refine zE ?_ | refine zF ?_ | refine zG ?_ | refine zH ?_ | refine zI ?_ | refine zJ ?_ | refine zK ?_ | refine zL ?_ | refine zM rfl ?_ | refine zN ?_ | refine zO ?_ | refine zP ?_ | refine zQ ?_ | refine zR rfl ?_ | refine zS rfl ?_ | refine zT Tryz.mixed (by kernel_rfl) ?_)
    refine wl_index Tryz.underlying167 Tryz.isAgg28 Tryz.sizeOf28 rfl rfl rfl rfl rfl (by decide) (v := str (numS c)) rfl ?_
    refine wl_pure Tryz.hT rfl rfl rfl ?_
    refine wl_nil ?_
    repeat (first | refine zA ?_ | refine zB ?_ | refine zC ?_ | refine zD ?_ | refine zE ?_ | refine zF ?_ | refine zG ?_ | refine zH ?_ | refine zI ?_ | refine zJ ?_ | refine zK ?_ | refine zL ?_ | refine zM rfl ?_ | refine zN ?_ | refine zO ?_ | refine zP ?_ | refine zQ ?_ | refine zR rfl ?_ | refine zS rfl ?_ | refine zT Tryz.mixed (by kernel_rfl) ?_)
    refine wl_pure Tryz.hT rfl rfl rfl ?_
    refine wl_call1 rfl rfl rfl rfl rfl rfl (by kernel_rfl) (fun W hp => pcheck_gives c hc W (hv.hp hp) (ht.hp hp)) ?_
    refine wl_pure Tryz.hT rfl rfl rfl ?_
    refine wl_nil ?_
    repeat (first | refine zA ?_ | refine zB ?_ | refine zC ?_ | refine zD ?_ | refine zE ?_ | refine zF ?_ | refine zG ?_ | refine zH ?_ | refine zI ?_ | refine zJ ?_ | refine zK ?_ | refine zL ?_ | refine zM rfl ?_ | refine zN ?_ | refine zO ?_ | refine zP ?_ | refine zQ ?_ | refine zR rfl ?_ | refine zS rfl ?_ | refine zT Tryz.mixed (by kernel_rfl) ?_)
    iterate 2 refine wl_pure Tryz.hT rfl rfl rfl ?_
    refine wl_nil ?_
    repeat (first | refine zA ?_ | refine zB ?_ | refine zC ?_ | refine zD ?_ | refine zE ?_ | refine zF ?_ | refine zG ?_ | refine zH ?_ | refine zI ?_ | refine zJ ?_ | refine zK ?_ | refine zL ?_ | refine zM rfl ?_ | refine zN ?_ | refine zO ?_ | refine zP ?_ | refine zQ ?_ | refine zR rfl ?_ | refine zS rfl ?_ | refine zT Tryz.mixed (by kernel_rfl) ?_)
    iterate 2 refine wl_pure Tryz.hT rfl rfl rfl ?_
    refine wl_nil ?_
    repeat (first | refine zA ?_ | refine zB ?_ | refine zC ?_ | refine zD ?_ | refine zE ?_ | refine zF ?_ | refine zG ?_ | refine zH ?_ | refine zI ?_ | refine zJ ?_ | refine zK ?_ | refine zL ?_ | refine zM rfl ?_ | refine zN ?_ | refine zO ?_ | refine zP ?_ | refine zQ ?_ | refine zR rfl ?_ | refine zS rfl ?_ | refine zT Tryz.mixed (by kernel_rfl) ?_)
    exact ne_loop 3 (by decide) (by decide) ⟨rfl, rfl, rfl, rfl, trivial⟩ [] rfl
  · repeat (first | refine zA ?_ | refine zB ?_ | refine zC ?_ | refine zD ?_ | refine zE ?_ | refine zF ?_ | refine zG ?_ | refine zH ?_ | refine zI ?_ | refine zJ ?_ | refine zK ?_ | refine zL ?_ | refine zM rfl ?_ | refine zN ?_ | refine zO ?_ | refine zP ?_ | refine zQ ?_ | refine zR rfl ?_ | refine zS rfl ?_ | refine zT Tryz.mixed (by kernel_rfl) ?_)
    refine wl_pure Tryz.hT rfl rfl rfl ?_
    refine wl_nil ?_
    repeat (first | refine zA ?_ | refine zB ?_ | refine zC ?_ | refine zD ?_ | refine zE ?_ | refine zF ?_ | refine zG ?_ | refine zH ?_ | refine zI ?_ | refine zJ ?_ | refine zK ?_ | refine zL ?_ | refine zM rfl ?_ | refine zN ?_ | refine zO ?_ | refine zP ?_ | refine zQ ?_ | refine zR rfl ?_ | refine zS rfl ?_ | refine zT Tryz.mixed (by kernel_rfl) ?_)
    refine wl_pure Tryz.hT rfl rfl rfl ?_
    refine wl_nil ?_
    repeat (first | refine zA ?_ | refine zB ?_ | refine zC ?_ | refine zD ?_ | refine zE ?_ | refine zF ?_ | refine zG ?_ | refine zH ?_ | refine zI ?_ | refine zJ ?_ | refine zK ?_ | refine zL ?_ | refine zM rfl ?_ | refine zN ?_ | refine zO ?_ | refine zP ?_ | refine zQ ?_ | refine zR rfl ?_ | refine zS rfl ?_ | refine zT Tryz.mixed (by kernel_rfl) ?_)
    exact ne_ret1 Tryz.hT rfl (.tmp rfl) () rfl trivial fun W _ => NewBx.nil _ _
/-- A calculator without an error. -/
def CalcP (W : World) (c : Nat) : Prop := W.heap[c]? = some (.cells #[.int .i64 0] 125 (0, 0))
theorem CalcP.hp {W0 W : World} {bxs : List Bx} {c : Nat} (h : CalcP W0 c) (hp : Hp W0 bxs W) : CalcP W c :=
  (hp.below.block c (Array.getElem?_eq_some_iff.1 h).1).trans h
theorem CalcP.row {W : World} {c : Nat} (h : CalcP W c) : RowAt W c 0 [.int .i64 0] := RowAt.of_block h
set_option maxHeartbeats 4000000 in
theorem calcOf_gives (c : Nat) (s : List UInt8) (W : World) (hc : CalcP W c) :
    CallsR Tryz.prog 209 #[selfP c, str s, .int .i64 0] W (fun _ : Unit => str s) (fun _ => True) (fun _ => []) := by
  refine calls_enter (args := [selfP c, str s, .int .i64 0]) Tryz.func209 rfl rfl rfl ?_
  repeat (first | refine zA ?_ | refine zB ?_ | refine zC ?_ | refine zD ?_ | refine zE ?_ | refine zF ?_ | refine zG ?_ | refine zH ?_ | refine zI ?_ | refine zJ ?_ | refine zK ?_ | refine zL ?_ | refine zM rfl ?_ | refine zN ?_ | refine zO ?_ | refine zP ?_ | refine zQ ?_ | refine zR rfl ?_ | refine zS rfl ?_ | refine zT Tryz.mixed (by kernel_rfl) ?_)
  refine wl_pure Tryz.hT rfl rfl rfl ?_
  refine wl_nil ?_
  repeat (first | refine zA ?_ | refine zB ?_ | refine zC ?_ | refine zD ?_ | refine zE ?_ | refine zF ?_ | refine zG ?_ | refine zH ?_ | refine zI ?_ | refine zJ ?_ | refine zK ?_ | refine zL ?_ | refine zM rfl ?_ | refine zN ?_ | refine zO ?_ | refine zP ?_ | refine zQ ?_ | refine zR rfl ?_ | refine zS rfl ?_ | refine zT Tryz.mixed (by kernel_rfl) ?_)
  refine wl_pure Tryz.hT rfl rfl rfl ?_
  refine wl_nilCheck rfl rfl rfl rfl ?_
  refine wl_pure Tryz.hT rfl rfl rfl ?_
  (first | refine wl_load rfl rfl rfl rfl (fun W hp => RowAt.load 0 Tryz.hT rfl ((fun W hp => (hc.hp hp).row) W hp) rfl) ?_ | refine wl_load rfl rfl rfl rfl (fun W hp => RowAt.load 1 Tryz.hT rfl ((fun W hp => (hc.hp hp).row) W hp) rfl) ?_ | refine wl_load rfl rfl rfl rfl (fun W hp => RowAt.load 2 Tryz.hT rfl ((fun W hp => (hc.hp hp).row) W hp) rfl) ?_ | refine wl_load rfl rfl rfl rfl (fun W hp => RowAt.load 3 Tryz.hT rfl ((fun W hp => (hc.hp hp).row) W hp) rfl) ?_ | refine wl_load rfl rfl rfl rfl (fun W hp => RowAt.load 4 Tryz.hT rfl ((fun W hp => (hc.hp hp).row) W hp) rfl) ?_ | refine wl_load rfl rfl rfl rfl (fun W hp => RowAt.load 5 Tryz.hT rfl ((fun W hp => (hc.hp hp).row) W hp) rfl) ?_ | refine wl_load rfl rfl rfl rfl (fun W hp => RowAt.load 6 Tryz.hT rfl ((fun W hp => (hc.hp hp).row) W hp) rfl) ?_ | refine wl_load rfl rfl rfl rfl (fun W hp => RowAt.load 7 Tryz.hT rfl ((fun W hp => (hc.hp hp).row) W hp) rfl) ?_ | refine wq_load rfl rfl rfl rfl (fun W hp => RowAt.load 0 Tryz.hT rfl ((fun W hp => (hc.hp hp).row) W hp) rfl) ?_ | refine wq_load rfl rfl rfl rfl (fun W hp => RowAt.load 1 Tryz.hT rfl ((fun W hp => (hc.hp hp).row) W hp) rfl) ?_ | refine wq_load rfl rfl rfl rfl (fun W hp => RowAt.load 2 Tryz.hT rfl ((fun W hp => (hc.hp hp).row) W hp) rfl) ?_ | refine wq_load rfl rfl rfl rfl (fun W hp => RowAt.load 3 Tryz.hT rfl ((fun W hp => (hc.hp hp).row) W hp) rfl) ?_ | refine wq_load rfl rfl rfl rfl (fun W hp => RowAt.load 4 Tryz.hT rfl ((fun W hp => (hc.hp hp).row) W hp) rfl) ?_ | refine wq_load rfl rfl rfl rfl (fun W hp => RowAt.load 5 Tryz.hT rfl ((fun W hp => (hc.hp hp).row) W hp) rfl) ?_ | refine wq_load rfl rfl rfl rfl (fun W hp => RowAt.load 6 Tryz.hT rfl ((fun W hp => (hc.hp hp).row) W hp) rfl) ?_ | refine wq_load rfl rfl rfl rfl (fun W hp => RowAt.load 7 Tryz.hT rfl ((fun W hp => (hc.hp hp).row) W hp) rfl) ?_)
  refine wl_pure Tryz.hT rfl rfl rfl ?_
  refine wl_nil ?_
  repeat (first | refine zA ?_ | refine zB ?_ | refine zC ?_ | refine zD ?_ | refine zE ?_ | refine zF ?_ | refine zG ?_ | refine zH ?_ | refine zI ?_ | refine zJ ?_ | refine zK ?_ | refine zL ?_ | refine zM rfl ?_ | refine zN ?_ | refine zO ?_ | refine zP ?_ | refine zQ ?_ | refine zR rfl ?_ | refine zS rfl ?_ | refine zT Tryz.mixed (by kernel_rfl) ?_)
  iterate 2 refine wl_pure Tryz.hT rfl rfl rfl ?_
  refine wl_nilCheck rfl rfl rfl rfl ?_
  refine wl_pure Tryz.hT rfl rfl rfl ?_
  refine wl_storeSame (c := [.int .i64 0]) (ty := 125) Tryz.hT rfl rfl rfl rfl rfl rfl rfl rfl rfl rfl (fun W hp => hc.hp hp) ?_
  refine wl_nil ?_
  repeat (first | refine zA ?_ | refine zB ?_ | refine zC ?_ | refine zD ?_ | refine zE ?_ | refine zF ?_ | refine zG ?_ | refine zH ?_ | refine zI ?_ | refine zJ ?_ | refine zK ?_ | refine zL ?_ | refine zM rfl ?_ | refine zN ?_ | refine zO ?_ | refine zP ?_ | refine zQ ?_ | refine zR rfl ?_ | refine zS rfl ?_ | refine zT Tryz.mixed (by kernel_rfl) ?_)
  iterate 2 refine wl_pure Tryz.hT rfl rfl rfl ?_
  refine wl_nil ?_
  repeat (first | refine zA ?_ | refine zB ?_ | refine zC ?_ | refine zD ?_ | refine zE ?_ | refine zF ?_ | refine zG ?_ | refine zH ?_ | refine zI ?_ | refine zJ ?_ | refine zK ?_ | refine zL ?_ | refine zM rfl ?_ | refine zN ?_ | refine zO ?_ | refine zP ?_ | refine zQ ?_ | refine zR rfl ?_ | refine zS rfl ?_ | refine zT Tryz.mixed (by kernel_rfl) ?_)
  exact ne_ret1 Tryz.hT rfl (.tmp rfl) () rfl trivial fun W _ => NewBx.nil _ _
set_option maxHeartbeats 4000000 in
theorem calcMul_gives (c : Nat) (p q : Rat) (hz : Sz2 p q) (W : World) (hc : CalcP W c) (hv : MaxP W) (ht : TabP W) :
    CallsR Tryz.prog 144 #[selfP c, str (numS p), str (numS q)] W (fun _ : Unit => str (numS (p * q))) (fun _ => True) (fun _ => []) := by
  refine calls_enter (args := [selfP c, str (numS p), str (numS q)]) Tryz.func144 rfl rfl rfl ?_
  repeat (first | refine zA ?_ | refine zB ?_ | refine zC ?_ | refine zD ?_ | refine zE ?_ | refine zF ?_ | refine zG ?_ | refine zH ?_ | refine zI ?_ | refine zJ ?_ | refine zK ?_ | refine zL ?_ | refine zM rfl ?_ | refine zN ?_ | refine zO ?_ | refine zP ?_ | refine zQ ?_ | refine zR rfl ?_ | refine zS rfl ?_ | refine zT Tryz.mixed (by kernel_rfl) ?_)
  refine wl_pure Tryz.hT rfl rfl rfl ?_
  refine wl_nil ?_
  repeat (first | refine zA ?_ | refine zB ?_ | refine zC ?_ | refine zD ?_ | refine zE ?_ | refine zF ?_ | refine zG ?_ | refine zH ?_ | refine zI ?_ | refine zJ ?_ | refine zK ?_ | refine zL ?_ | refine zM rfl ?_ | refine zN ?_ | refine zO ?_ | refine zP ?_ | refine zQ ?_ | refine zR rfl ?_ | refine zS rfl ?_ | refine zT Tryz.mixed (by kernel_rfl) ?_)
  iterate 3 refine wl_pure Tryz.hT rfl rfl rfl ?_
  refine wl_call1 rfl rfl rfl rfl rfl rfl (by kernel_rfl) (fun W hp => rmul_gives p q hz W (hv.hp hp) (ht.hp hp)) ?_
  iterate 2 refine wl_pure Tryz.hT rfl rfl rfl ?_
  refine wl_call1 rfl rfl rfl rfl rfl rfl (by kernel_rfl) (fun W hp => calcOf_gives c (numS (p * q)) W (hc.hp hp)) ?_
  refine wl_pure Tryz.hT rfl rfl rfl ?_
  refine wl_nil ?_
  repeat (first | refine zA ?_ | refine zB ?_ | refine zC ?_ | refine zD ?_ | refine zE ?_ | refine zF ?_ | refine zG ?_ | refine zH ?_ | refine zI ?_ | refine zJ ?_ | refine zK ?_ | refine zL ?_ | refine zM rfl ?_ | refine zN ?_ | refine zO ?_ | refine zP ?_ | refine zQ ?_ | refine zR rfl ?_ | refine zS rfl ?_ | refine zT Tryz.mixed (by kernel_rfl) ?_)
  exact ne_ret1 Tryz.hT rfl (.tmp rfl) () rfl trivial fun W _ => NewBx.nil _ _
set_option maxHeartbeats 4000000 in
theorem calcSum_gives (c : Nat) (l : List Rat) (p : Option Addr) (cap : Nat) (hn : l.length ≤ 4096) (hk : ∀ q ∈ l, okQ q) (hz : ∀ k (hk : k < l.length), Sz2 (psum l k) l[k]) (W : World) (hc : CalcP W c) (hS : StrsP W p (l.map numS)) (hv : MaxP W) (ht : TabP W) :
    CallsR Tryz.prog 143 #[selfP c, slv p l.length cap] W (fun _ : Unit => str (numS (psum l l.length))) (fun _ => True) (fun _ => []) := by
  refine calls_enter (args := [selfP c, slv p l.length cap]) Tryz.func143 rfl rfl rfl ?_
  repeat (first | refine zA ?_ | refine zB ?_ | refine zC ?_ | refine zD ?_ | refine zE ?_ | refine zF ?_ | refine zG ?_ | refine zH ?_ | refine zI ?_ | refine zJ ?_ | refine zK ?_ | refine zL ?_ | refine zM rfl ?_ | refine zN ?_ | refine zO ?_ | refine zP ?_ | refine zQ ?_ | refine zR rfl ?_ | refine zS rfl ?_ | refine zT Tryz.mixed (by kernel_rfl) ?_)
  refine wl_pure Tryz.hT rfl rfl rfl ?_
  refine wl_nil ?_
  repeat (first | refine zA ?_ | refine zB ?_ | refine zC ?_ | refine zD ?_ | refine zE ?_ | refine zF ?_ | refine zG ?_ | refine zH ?_ | refine zI ?_ | refine zJ ?_ | refine zK ?_ | refine zL ?_ | refine zM rfl ?_ | refine zN ?_ | refine zO ?_ | refine zP ?_ | refine zQ ?_ | refine zR rfl ?_ | refine zS rfl ?_ | refine zT Tryz.mixed (by kernel_rfl) ?_)
  iterate 2 refine wl_pure Tryz.hT rfl rfl rfl ?_
  refine wl_call1 rfl rfl rfl rfl rfl rfl (by kernel_rfl) (fun W hp => rsum_gives l p cap hn hk hz W (hS.hp hp) (hv.hp hp) (ht.hp hp)) ?_
  iterate 2 refine wl_pure Tryz.hT rfl rfl rfl ?_
  refine wl_call1 rfl rfl rfl rfl rfl rfl (by kernel_rfl) (fun W hp => calcOf_gives c (numS (psum l l.length)) W (hc.hp hp)) ?_
  refine wl_pure Tryz.hT rfl rfl rfl ?_
  refine wl_nil ?_
  repeat (first | refine zA ?_ | refine zB ?_ | refine zC ?_ | refine zD ?_ | refine zE ?_ | refine zF ?_ | refine zG ?_ | refine zH ?_ | refine zI ?_ | refine zJ ?_ | refine zK ?_ | refine zL ?_ | refine zM rfl ?_ | refine zN ?_ | refine zO ?_ | refine zP ?_ | refine zQ ?_ | refine zR rfl ?_ | refine zS rfl ?_ | refine zT Tryz.mixed (by kernel_rfl) ?_)
  exact ne_ret1 Tryz.hT rfl (.tmp rfl) () rfl trivial fun W _ => NewBx.nil _ _
theorem calcDone_gives (c : Nat) (s : List UInt8) (W : World) (hc : CalcP W c) :
    CallsR Tryz.prog 91 #[selfP c, str s] W (fun _ : Unit => .tuple #[str s, .int .i64 0]) (fun _ => True) (fun _ => []) := by
  refine calls_enter (args := [selfP c, str s]) Tryz.func91 rfl rfl rfl ?_
  repeat (first | refine zA ?_ | refine zB ?_ | refine zC ?_ | refine zD ?_ | refine zE ?_ | refine zF ?_ | refine zG ?_ | refine zH ?_ | refine zI ?_ | refine zJ ?_ | refine zK ?_ | refine zL ?_ | refine zM rfl ?_ | refine zN ?_ | refine zO ?_ | refine zP ?_ | refine zQ ?_ | refine zR rfl ?_ | refine zS rfl ?_ | refine zT Tryz.mixed (by kernel_rfl) ?_)
  iterate 2 refine wl_pure Tryz.hT rfl rfl rfl ?_
  refine wl_nil ?_
  repeat (first | refine zA ?_ | refine zB ?_ | refine zC ?_ | refine zD ?_ | refine zE ?_ | refine zF ?_ | refine zG ?_ | refine zH ?_ | refine zI ?_ | refine zJ ?_ | refine zK ?_ | refine zL ?_ | refine zM rfl ?_ | refine zN ?_ | refine zO ?_ | refine zP ?_ | refine zQ ?_ | refine zR rfl ?_ | refine zS rfl ?_ | refine zT Tryz.mixed (by kernel_rfl) ?_)
  refine wl_pure Tryz.hT rfl rfl rfl ?_
  refine wl_nilCheck rfl rfl rfl rfl ?_
  refine wl_pure Tryz.hT rfl rfl rfl ?_
  (first | refine wl_load rfl rfl rfl rfl (fun W hp => RowAt.load 0 Tryz.hT rfl ((fun W hp => (hc.hp hp).row) W hp) rfl) ?_ | refine wl_load rfl rfl rfl rfl (fun W hp => RowAt.load 1 Tryz.hT rfl ((fun W hp => (hc.hp hp).row) W hp) rfl) ?_ | refine wl_load rfl rfl rfl rfl (fun W hp => RowAt.load 2 Tryz.hT rfl ((fun W hp => (hc.hp hp).row) W hp) rfl) ?_ | refine wl_load rfl rfl rfl rfl (fun W hp => RowAt.load 3 Tryz.hT rfl ((fun W hp => (hc.hp hp).row) W hp) rfl) ?_ | refine wl_load rfl rfl rfl rfl (fun W hp => RowAt.load 4 Tryz.hT rfl ((fun W hp => (hc.hp hp).row) W hp) rfl) ?_ | refine wl_load rfl rfl rfl rfl (fun W hp => RowAt.load 5 Tryz.hT rfl ((fun W hp => (hc.hp hp).row) W hp) rfl) ?_ | refine wl_load rfl rfl rfl rfl (fun W hp => RowAt.load 6 Tryz.hT rfl ((fun W hp => (hc.hp hp).row) W hp) rfl) ?_ | refine wl_load rfl rfl rfl rfl (fun W hp => RowAt.load 7 Tryz.hT rfl ((fun W hp => (hc.hp hp).row) W hp) rfl) ?_ | refine wq_load rfl rfl rfl rfl (fun W hp => RowAt.load 0 Tryz.hT rfl ((fun W hp => (hc.hp hp).row) W hp) rfl) ?_ | refine wq_load rfl rfl rfl rfl (fun W hp => RowAt.load 1 Tryz.hT rfl ((fun W hp => (hc.hp hp).row) W hp) rfl) ?_ | refine wq_load rfl rfl rfl rfl (fun W hp => RowAt.load 2 Tryz.hT rfl ((fun W hp => (hc.hp hp).row) W hp) rfl) ?_ | refine wq_load rfl rfl rfl rfl (fun W hp => RowAt.load 3 Tryz.hT rfl ((fun W hp => (hc.hp hp).row) W hp) rfl) ?_ | refine wq_load rfl rfl rfl rfl (fun W hp => RowAt.load 4 Tryz.hT rfl ((fun W hp => (hc.hp hp).row) W hp) rfl) ?_ | refine wq_load rfl rfl rfl rfl (fun W hp => RowAt.load 5 Tryz.hT rfl ((fun W hp => (hc.hp hp).row) W hp) rfl) ?_ | refine wq_load rfl rfl rfl rfl (fun W hp => RowAt.load 6 Tryz.hT rfl ((fun W hp => (hc.hp hp).row) W hp) rfl) ?_ | refine wq_load rfl rfl rfl rfl (fun W hp => RowAt.load 7 Tryz.hT rfl ((fun W hp => (hc.hp hp).row) W hp) rfl) ?_)
  refine wl_pure Tryz.hT rfl rfl rfl ?_
  refine wl_nil ?_
  repeat (first | refine zA ?_ | refine zB ?_ | refine zC ?_ | refine zD ?_ | refine zE ?_ | refine zF ?_ | refine zG ?_ | refine zH ?_ | refine zI ?_ | refine zJ ?_ | refine zK ?_ | refine zL ?_ | refine zM rfl ?_ | refine zN ?_ | refine zO ?_ | refine zP ?_ | refine zQ ?_ | refine zR rfl ?_ | refine zS rfl ?_ | refine zT Tryz.mixed (by kernel_rfl) ?_)
  iterate 3 refine wl_pure Tryz.hT rfl rfl rfl ?_
  refine wl_nil ?_
  repeat (first | refine zA ?_ | refine zB ?_ | refine zC ?_ | refine zD ?_ | refine zE ?_ | refine zF ?_ | refine zG ?_ | refine zH ?_ | refine zI ?_ | refine zJ ?_ | refine zK ?_ | refine zL ?_ | refine zM rfl ?_ | refine zN ?_ | refine zO ?_ | refine zP ?_ | refine zQ ?_ | refine zR rfl ?_ | refine zS rfl ?_ | refine zT Tryz.mixed (by kernel_rfl) ?_)
  exact ne_ret2 Tryz.hT rfl (.tmp rfl) (.tmp rfl) () rfl trivial fun W _ => NewBx.nil _ _
/-- What a plane's height above a point asks of its numbers. -/
structure HtZ (a b c x y : Rat) : Prop where
  m1 : Sz2 a x
  m2 : Sz2 b y
  ok : ∀ q ∈ [a * x, b * y, c], okQ q
  s : ∀ k (hk : k < [a * x, b * y, c].length), Sz2 (psum [a * x, b * y, c] k) [a * x, b * y, c][k]
abbrev ptV (x y : Rat) : Value := .agg #[str (numS x), str (numS y)]
set_option maxHeartbeats 8000000 in
theorem height_gives (c : Nat) (a b d x y : Rat) (hz : HtZ a b d x y) (W : World) (hc : CalcP W c) (hv : MaxP W) (ht : TabP W) :
    CallsR Tryz.prog 92 #[selfP c, plV a b d, ptV x y] W (fun _ : Unit => str (numS (0 + a * x + b * y + d))) (fun _ => True) (fun _ => []) := by
  refine calls_enter (args := [selfP c, plV a b d, ptV x y]) Tryz.func92 rfl rfl rfl ?_
  repeat (first | refine zA ?_ | refine zB ?_ | refine zC ?_ | refine zD ?_ | refine zE ?_ | refine zF ?_ | refine zG ?_ | refine zH ?_ | refine zI ?_ | refine zJ ?_ | refine zK ?_ | refine zL ?_ | refine zM rfl ?_ | refine zN ?_ | refine zO ?_ | refine zP ?_ | refine zQ ?_ | refine zR rfl ?_ | refine zS rfl ?_ | refine zT Tryz.mixed (by kernel_rfl) ?_)
  (refine wl_box rfl rfl rfl rfl ?_; intro)
  (refine wl_box rfl rfl rfl rfl ?_; intro)
  refine wl_pure Tryz.hT rfl rfl rfl ?_
  refine wl_nil ?_
  rename_i b4 b5
  repeat (first | refine zC ?_ | refine zD ?_ | refine zE ?_ | refine zF ?_ | refine zG ?_ | refine zH ?_ | refine zI ?_ | refine zJ ?_ | refine zK ?_ | refine zL ?_ | refine zM rfl ?_ | refine zN ?_ | refine zO ?_ | refine zP ?_ | refine zQ ?_ | refine zR rfl ?_ | refine zS rfl ?_)
  refine wc_seq ?_
  refine wc_lateY (X := Nat) [true, true, true, true, true, true, true, true, true, true, true, true, true, true, true, false, false, false] (fun bS => [(6, str (numS (0 + a * x + b * y + d)))]) (fun bS => [⟨b4, 57, (plV a b d).cells.toList, true, none⟩, ⟨b5, 51, (ptV x y).cells.toList, true, none⟩, ⟨bS, 28, [str (numS (a * x)), str (numS (b * y)), str (numS d)], true, none⟩])
      3 [⟨b4, 57, (plV a b d).cells.toList, true, none⟩, ⟨b5, 51, (ptV x y).cells.toList, true, none⟩] Tryz.mixed (by kernel_rfl) ?_ ?_
  · refine wq_pure Tryz.hT rfl rfl rfl ?_
    iterate 2 refine wq_pure Tryz.hT rfl rfl rfl ?_
    (first | refine wq_loadBx 0 Tryz.hT rfl rfl rfl rfl rfl rfl rfl rfl ?_ | refine wq_loadBx 1 Tryz.hT rfl rfl rfl rfl rfl rfl rfl rfl ?_ | refine wq_loadBx 2 Tryz.hT rfl rfl rfl rfl rfl rfl rfl rfl ?_ | refine wq_loadBx 3 Tryz.hT rfl rfl rfl rfl rfl rfl rfl rfl ?_ | refine wq_loadBx 4 Tryz.hT rfl rfl rfl rfl rfl rfl rfl rfl ?_)
    refine wq_pure Tryz.hT rfl rfl rfl ?_
    (first | refine wq_loadBx 0 Tryz.hT rfl rfl rfl rfl rfl rfl rfl rfl ?_ | refine wq_loadBx 1 Tryz.hT rfl rfl rfl rfl rfl rfl rfl rfl ?_ | refine wq_loadBx 2 Tryz.hT rfl rfl rfl rfl rfl rfl rfl rfl ?_ | refine wq_loadBx 3 Tryz.hT rfl rfl rfl rfl rfl rfl rfl rfl ?_ | refine wq_loadBx 4 Tryz.hT rfl rfl rfl rfl rfl rfl rfl rfl ?_)
    refine wq_call1 rfl rfl rfl rfl rfl rfl (by kernel_rfl) (fun W hp => calcMul_gives c a x hz.m1 W (hc.hp hp) (hv.hp hp) (ht.hp hp)) ?_
    iterate 2 refine wq_pure Tryz.hT rfl rfl rfl ?_
    (first | refine wq_loadBx 0 Tryz.hT rfl rfl rfl rfl rfl rfl rfl rfl ?_ | refine wq_loadBx 1 Tryz.hT rfl rfl rfl rfl rfl rfl rfl rfl ?_ | refine wq_loadBx 2 Tryz.hT rfl rfl rfl rfl rfl rfl rfl rfl ?_ | refine wq_loadBx 3 Tryz.hT rfl rfl rfl rfl rfl rfl rfl rfl ?_ | refine wq_loadBx 4 Tryz.hT rfl rfl rfl rfl rfl rfl rfl rfl ?_)
    refine wq_pure Tryz.hT rfl rfl rfl ?_
    (first | refine wq_loadBx 0 Tryz.hT rfl rfl rfl rfl rfl rfl rfl rfl ?_ | refine wq_loadBx 1 Tryz.hT rfl rfl rfl rfl rfl rfl rfl rfl ?_ | refine wq_loadBx 2 Tryz.hT rfl rfl rfl rfl rfl rfl rfl rfl ?_ | refine wq_loadBx 3 Tryz.hT rfl rfl rfl rfl rfl rfl rfl rfl ?_ | refine wq_loadBx 4 Tryz.hT rfl rfl rfl rfl rfl rfl rfl rfl ?_)
    refine wq_call1 rfl rfl rfl rfl rfl rfl (by kernel_rfl) (fun W hp => calcMul_gives c b y hz.m2 W (hc.hp hp) (hv.hp hp) (ht.hp hp)) ?_
    refine wq_pure Tryz.hT rfl rfl rfl ?_
    (first | refine wq_loadBx 0 Tryz.hT rfl rfl rfl rfl rfl rfl rfl rfl ?_ | refine wq_loadBx 1 Tryz.hT rfl rfl rfl rfl rfl rfl rfl rfl ?_ | refine wq_loadBx 2 Tryz.hT rfl rfl rfl rfl rfl rfl rfl rfl ?_ | refine wq_loadBx 3 Tryz.hT rfl rfl rfl rfl rfl rfl rfl rfl ?_ | refine wq_loadBx 4 Tryz.hT rfl rfl rfl rfl rfl rfl rfl rfl ?_)
    refine wq_wt ?_
    first | refine wt_step rfl rfl (by ((repeat (first | refine Weak.same ?_ | refine Weak.off rfl ?_)); exact trivial)) ?_ | refine wt_stepF rfl rfl (by kernel_rfl) ?_
    refine RS.cons ?_ (RS.nil)
    refine wl_buildRowZ Tryz.hZ Tryz.hT rfl rfl rfl rfl rfl rfl rfl rfl rfl rfl rfl fun bS => ?_
    refine wl_nil ?_
    refine ne_wt ?_
    first | refine wt_step rfl rfl (by ((repeat (first | refine Weak.same ?_ | refine Weak.off rfl ?_)); exact trivial)) ?_ | refine wt_stepF rfl rfl (by kernel_rfl) ?_
    refine RS.cons ?_ (RS.nil)
    refine wl_call1 rfl rfl rfl rfl rfl rfl (by kernel_rfl) (fun W hp => calcSum_gives c [a * x, b * y, d] (some ⟨bS, 0, none⟩) 3 (show 3 ≤ 4096 by decide) hz.ok hz.s W (hc.hp hp) (.inr ⟨bS, 0, rfl, RowAt.of_bx hp 2 rfl rfl⟩) (hv.hp hp) (ht.hp hp)) ?_
    refine wl_nil ?_
    refine ne_wt ?_
    first | refine wt_step rfl rfl (by ((repeat (first | refine Weak.same ?_ | refine Weak.off rfl ?_)); exact trivial)) ?_ | refine wt_stepF rfl rfl (by kernel_rfl) ?_
    refine RS.cons ?_ (RS.nil)
    refine wl_pure Tryz.hT rfl rfl rfl ?_
    refine wl_nil ?_
    refine ne_wt ?_
    first | refine wt_done rfl (by ((repeat (first | refine Weak.same ?_ | refine Weak.off rfl ?_)); exact trivial)) ?_ | refine wt_doneF rfl (by kernel_rfl) ?_
    exact ne_late bS ⟨rfl, trivial⟩ [0, 1, 2] (by decide) rfl
  intro bS
  repeat (first | refine zA ?_ | refine zB ?_ | refine zC ?_ | refine zD ?_ | refine zE ?_ | refine zF ?_ | refine zG ?_ | refine zH ?_ | refine zI ?_ | refine zJ ?_ | refine zK ?_ | refine zL ?_ | refine zM rfl ?_ | refine zN ?_ | refine zO ?_ | refine zP ?_ | refine zQ ?_ | refine zR rfl ?_ | refine zS rfl ?_ | refine zT Tryz.mixed (by kernel_rfl) ?_)
  exact ne_ret1 Tryz.hT rfl (.tmp rfl) () rfl trivial fun W _ => NewBx.nil _ _
set_option maxHeartbeats 8000000 in
theorem planeAt_gives (a b c x y : Rat) (ha : szQ a 36) (hb : szQ b 36) (hc : szQ c 36) (hx : szQ x 36) (hy : szQ y 36) (hz : HtZ a b c x y) (W : World) (hv : MaxP W) (ht : TabP W) :
    CallsR Tryz.prog 36 #[plV a b c, ptV x y] W (fun _ : Unit => .tuple #[str (numS (0 + a * x + b * y + c)), .int .i64 0]) (fun _ => True) (fun _ => []) := by
  refine calls_enter (args := [plV a b c, ptV x y]) Tryz.func36 rfl rfl rfl ?_
  repeat (first | refine zA ?_ | refine zB ?_ | refine zC ?_ | refine zD ?_ | refine zE ?_ | refine zF ?_ | refine zG ?_ | refine zH ?_ | refine zI ?_ | refine zJ ?_ | refine zK ?_ | refine zL ?_ | refine zM rfl ?_ | refine zN ?_ | refine zO ?_ | refine zP ?_ | refine zQ ?_ | refine zR rfl ?_ | refine zS rfl ?_ | refine zT Tryz.mixed (by kernel_rfl) ?_)
  (refine wl_box rfl rfl rfl rfl ?_; intro)
  (refine wl_box rfl rfl rfl rfl ?_; intro)
  iterate 2 refine wl_pure Tryz.hT rfl rfl rfl ?_
  refine wl_nil ?_
  rename_i b2 b3
  repeat (first | refine zA ?_ | refine zB ?_ | refine zC ?_ | refine zD ?_ | refine zE ?_ | refine zF ?_ | refine zG ?_ | refine zH ?_ | refine zI ?_ | refine zJ ?_ | refine zK ?_ | refine zL ?_ | refine zM rfl ?_ | refine zN ?_ | refine zO ?_ | refine zP ?_ | refine zQ ?_ | refine zR rfl ?_ | refine zS rfl ?_ | refine zT Tryz.mixed (by kernel_rfl) ?_)
  (first | refine wl_loadBx 0 Tryz.hT rfl rfl rfl rfl rfl rfl rfl rfl ?_ | refine wl_loadBx 1 Tryz.hT rfl rfl rfl rfl rfl rfl rfl rfl ?_ | refine wl_loadBx 2 Tryz.hT rfl rfl rfl rfl rfl rfl rfl rfl ?_ | refine wl_loadBx 3 Tryz.hT rfl rfl rfl rfl rfl rfl rfl rfl ?_ | refine wl_loadBx 4 Tryz.hT rfl rfl rfl rfl rfl rfl rfl rfl ?_)
  refine wl_call1 rfl rfl rfl rfl rfl rfl (by kernel_rfl) (fun W hp => pCheck_gives a b c ha hb hc W (hv.hp hp) (ht.hp hp)) ?_
  iterate 2 refine wl_pure Tryz.hT rfl rfl rfl ?_
  (first | refine wl_pure Tryz.hT rfl rfl rfl ?_ | refine wl_skip rfl rfl ?_)
  (first | refine wl_skip rfl rfl ?_ | refine wl_loadBx 0 Tryz.hT rfl rfl rfl rfl rfl rfl rfl rfl ?_ | refine wl_loadBx 1 Tryz.hT rfl rfl rfl rfl rfl rfl rfl rfl ?_ | refine wl_loadBx 2 Tryz.hT rfl rfl rfl rfl rfl rfl rfl rfl ?_ | refine wl_loadBx 3 Tryz.hT rfl rfl rfl rfl rfl rfl rfl rfl ?_ | refine wl_loadBx 4 Tryz.hT rfl rfl rfl rfl rfl rfl rfl rfl ?_)
  (first | refine wl_pure Tryz.hT rfl rfl rfl ?_ | refine wl_skip rfl rfl ?_)
  (first | refine wl_skip rfl rfl ?_ | refine wl_loadBx 0 Tryz.hT rfl rfl rfl rfl rfl rfl rfl rfl ?_ | refine wl_loadBx 1 Tryz.hT rfl rfl rfl rfl rfl rfl rfl rfl ?_ | refine wl_loadBx 2 Tryz.hT rfl rfl rfl rfl rfl rfl rfl rfl ?_ | refine wl_loadBx 3 Tryz.hT rfl rfl rfl rfl rfl rfl rfl rfl ?_ | refine wl_loadBx 4 Tryz.hT rfl rfl rfl rfl rfl rfl rfl rfl ?_)
  refine wl_buildRowZ Tryz.hZ Tryz.hT rfl rfl rfl rfl rfl rfl rfl rfl rfl rfl rfl fun bS => ?_
  refine wl_call1 rfl rfl rfl rfl rfl rfl (by kernel_rfl) (fun W hp => pwrong_gives x y hx hy bS W (RowAt.of_bx hp 2 rfl rfl) (hv.hp hp) (ht.hp hp)) ?_
  refine wl_pure Tryz.hT rfl rfl rfl ?_
  refine wl_nil ?_
  repeat (first | refine zA ?_ | refine zB ?_ | refine zC ?_ | refine zD ?_ | refine zE ?_ | refine zF ?_ | refine zG ?_ | refine zH ?_ | refine zI ?_ | refine zJ ?_ | refine zK ?_ | refine zL ?_ | refine zM rfl ?_ | refine zN ?_ | refine zO ?_ | refine zP ?_ | refine zQ ?_ | refine zR rfl ?_ | refine zS rfl ?_ | refine zT Tryz.mixed (by kernel_rfl) ?_)
  (refine wl_allocZ Tryz.hZ rfl rfl rfl rfl ?_; intro)
  refine wl_nil ?_
  rename_i b6
  have hcal : ∀ W1, Hp W [⟨b2, 57, (plV a b c).cells.toList, true, none⟩, ⟨b3, 51, (ptV x y).cells.toList, true, none⟩, ⟨bS, 28, [str (numS x), str (numS y)], true, none⟩, ⟨b6, 125, [.int .i64 0], true, none⟩] W1 → CalcP W1 b6 := fun W1 hp => (hp.at_ 3 _ rfl rfl).1
  repeat (first | refine zA ?_ | refine zB ?_ | refine zC ?_ | refine zD ?_ | refine zE ?_ | refine zF ?_ | refine zG ?_ | refine zH ?_ | refine zI ?_ | refine zJ ?_ | refine zK ?_ | refine zL ?_ | refine zM rfl ?_ | refine zN ?_ | refine zO ?_ | refine zP ?_ | refine zQ ?_ | refine zR rfl ?_ | refine zS rfl ?_ | refine zT Tryz.mixed (by kernel_rfl) ?_)
  (first | refine wl_loadBx 0 Tryz.hT rfl rfl rfl rfl rfl rfl rfl rfl ?_ | refine wl_loadBx 1 Tryz.hT rfl rfl rfl rfl rfl rfl rfl rfl ?_ | refine wl_loadBx 2 Tryz.hT rfl rfl rfl rfl rfl rfl rfl rfl ?_ | refine wl_loadBx 3 Tryz.hT rfl rfl rfl rfl rfl rfl rfl rfl ?_ | refine wl_loadBx 4 Tryz.hT rfl rfl rfl rfl rfl rfl rfl rfl ?_)
  (first | refine wl_loadBx 0 Tryz.hT rfl rfl rfl rfl rfl rfl rfl rfl ?_ | refine wl_loadBx 1 Tryz.hT rfl rfl rfl rfl rfl rfl rfl rfl ?_ | refine wl_loadBx 2 Tryz.hT rfl rfl rfl rfl rfl rfl rfl rfl ?_ | refine wl_loadBx 3 Tryz.hT rfl rfl rfl rfl rfl rfl rfl rfl ?_ | refine wl_loadBx 4 Tryz.hT rfl rfl rfl rfl rfl rfl rfl rfl ?_)
  refine wl_call1 rfl rfl rfl rfl rfl rfl (by kernel_rfl) (fun W hp => height_gives b6 a b c x y hz W (hcal W hp) (hv.hp hp) (ht.hp hp)) ?_
  refine wl_call1 rfl rfl rfl rfl rfl rfl (by kernel_rfl) (fun W hp => calcDone_gives b6 (numS (0 + a * x + b * y + c)) W (hcal W hp)) ?_
  iterate 4 refine wl_pure Tryz.hT rfl rfl rfl ?_
  refine wl_nil ?_
  repeat (first | refine zA ?_ | refine zB ?_ | refine zC ?_ | refine zD ?_ | refine zE ?_ | refine zF ?_ | refine zG ?_ | refine zH ?_ | refine zI ?_ | refine zJ ?_ | refine zK ?_ | refine zL ?_ | refine zM rfl ?_ | refine zN ?_ | refine zO ?_ | refine zP ?_ | refine zQ ?_ | refine zR rfl ?_ | refine zS rfl ?_ | refine zT Tryz.mixed (by kernel_rfl) ?_)
  exact ne_ret2 Tryz.hT rfl (.tmp rfl) (.tmp rfl) () rfl trivial fun W _ => NewBx.nil _ _
end Go.Proofs.YteaiopkopifijaaGreatDoor
namespace Go.Proofs.YteaiopkopifijaaGreatDoor
open Go Go.RowKit Go.Am Go.Lib
set_option maxRecDepth 10000
-- BOXES 5
set_option maxHeartbeats 8000000 in
theorem fstart2_gives (f : FrP) (h : f.OK) (p q : Rat) (hp : szQ p 36) (hq : szQ q 36) (b : Nat) (W : World) (hv : MaxP W) (ht : TabP W) (hrow : RowAt W b 0 [str (numS p), str (numS q)]) :
    CallsR Tryz.prog 53 #[frV f, .slice (some ⟨b, 0, none⟩) 2 2] W (fun _ : Unit => .int .i64 0) (fun _ => True) (fun _ => []) := by
  refine calls_enter (args := [frV f, .slice (some ⟨b, 0, none⟩) 2 2]) Tryz.func53 rfl rfl rfl ?_
  repeat (first | refine zA ?_ | refine zB ?_ | refine zC ?_ | refine zD ?_ | refine zE ?_ | refine zF ?_ | refine zG ?_ | refine zH ?_ | refine zI ?_ | refine zJ ?_ | refine zK ?_ | refine zL ?_ | refine zM rfl ?_ | refine zN ?_ | refine zO ?_ | refine zP ?_ | refine zQ ?_ | refine zR rfl ?_ | refine zS rfl ?_ | refine zT Tryz.mixed (by kernel_rfl) ?_)
  (refine wl_box rfl rfl rfl rfl ?_; intro)
  refine wl_pure Tryz.hT rfl rfl rfl ?_
  refine wl_nil ?_
  rename_i b2
  repeat (first | refine zA ?_ | refine zB ?_ | refine zC ?_ | refine zD ?_ | refine zE ?_ | refine zF ?_ | refine zG ?_ | refine zH ?_ | refine zI ?_ | refine zJ ?_ | refine zK ?_ | refine zL ?_ | refine zM rfl ?_ | refine zN ?_ | refine zO ?_ | refine zP ?_ | refine zQ ?_ | refine zR rfl ?_ | refine zS rfl ?_ | refine zT Tryz.mixed (by kernel_rfl) ?_)
  (first | refine wl_loadBx 0 Tryz.hT rfl rfl rfl rfl rfl rfl rfl rfl ?_ | refine wl_loadBx 1 Tryz.hT rfl rfl rfl rfl rfl rfl rfl rfl ?_ | refine wl_loadBx 2 Tryz.hT rfl rfl rfl rfl rfl rfl rfl rfl ?_ | refine wl_loadBx 3 Tryz.hT rfl rfl rfl rfl rfl rfl rfl rfl ?_ | refine wl_loadBx 4 Tryz.hT rfl rfl rfl rfl rfl rfl rfl rfl ?_)
  refine wl_call1 rfl rfl rfl rfl rfl rfl (by kernel_rfl) (fun W hp => fcheck_gives f h W (hv.hp hp) (ht.hp hp)) ?_
  refine wl_pure Tryz.hT rfl rfl rfl ?_
  refine wl_nil ?_
  repeat (first | refine zA ?_ | refine zB ?_ | refine zC ?_ | refine zD ?_ | refine zE ?_ | refine zF ?_ | refine zG ?_ | refine zH ?_ | refine zI ?_ | refine zJ ?_ | refine zK ?_ | refine zL ?_ | refine zM rfl ?_ | refine zN ?_ | refine zO ?_ | refine zP ?_ | refine zQ ?_ | refine zR rfl ?_ | refine zS rfl ?_ | refine zT Tryz.mixed (by kernel_rfl) ?_)
  iterate 3 refine wl_pure Tryz.hT rfl rfl rfl ?_
  refine wl_nil ?_
  refine ne_then ?_
  refine wc_cutS (X := Unit) (fun _ => [(4, .int .i64 0)]) (fun _ => []) (fun _ => True) ?_ ?_
  · refine wc_block ?_
    refine wc_loop (X := Nat) (fun i => [(4, .int .i64 0), (11, .slice (some ⟨b, 0, none⟩) 2 2), (12, .int .i64 2), (13, .int .i64 (i : Nat))]) (fun _ => []) (fun i => i ≤ 2) (fun i => 2 - i) 0 (Nat.zero_le _) ⟨rfl, rfl, rfl, rfl, trivial⟩ _ rfl ?_
    intro i hi
    have hi : i = 0 ∨ i = 1 ∨ i = 2 := by have : i ≤ 2 := hi; omega
    rcases hi with rfl | rfl | rfl
    · repeat (first | refine zA ?_ | refine zB ?_ | refine zC ?_ | refine zD ?_ | refine zE ?_ | refine zF ?_ | refine zG ?_ | refine zH ?_ | refine zI ?_ | refine zJ ?_ | refine zK ?_ | refine zL ?_ | refine zM rfl ?_ | refine zN ?_ | refine zO ?_ | refine zP ?_ | refine zQ ?_ | refine zR rfl ?_ | refine zS rfl ?_ | refine zT Tryz.mixed (by kernel_rfl) ?_)
      refine wl_pure Tryz.hT rfl rfl rfl ?_
      refine wl_nil ?_
      repeat (first | refine zA ?_ | refine zB ?_ | refine zC ?_ | refine zD ?_ | refine zE ?_ | refine zF ?_ | refine zG ?_ | refine zH ?_ | refine zI ?_ | refine zJ ?_ | refine zK ?_ | refine zL ?_ | refine zM rfl ?_ | refine zN ?_ | refine zO ?_ | refine zP ?_ | refine zQ ?_ | refine zR rfl ?_ | refine zS rfl ?_ | refine zT Tryz.mixed (by kernel_rfl) ?_)
      (first | refine wl_indexAddr Tryz.hT rfl rfl rfl rfl rfl rfl rfl (by omega) (by omega) ?_ | refine wq_indexAddr Tryz.hT rfl rfl rfl rfl rfl rfl rfl (by omega) (by omega) ?_)
      (first | refine wl_load rfl rfl rfl rfl (fun W hp => RowAt.load 0 Tryz.hT rfl ((fun W hp => hrow.hp hp) W hp) rfl) ?_ | refine wl_load rfl rfl rfl rfl (fun W hp => RowAt.load 1 Tryz.hT rfl ((fun W hp => hrow.hp hp) W hp) rfl) ?_ | refine wl_load rfl rfl rfl rfl (fun W hp => RowAt.load 2 Tryz.hT rfl ((fun W hp => hrow.hp hp) W hp) rfl) ?_ | refine wl_load rfl rfl rfl rfl (fun W hp => RowAt.load 3 Tryz.hT rfl ((fun W hp => hrow.hp hp) W hp) rfl) ?_ | refine wl_load rfl rfl rfl rfl (fun W hp => RowAt.load 4 Tryz.hT rfl ((fun W hp => hrow.hp hp) W hp) rfl) ?_ | refine wl_load rfl rfl rfl rfl (fun W hp => RowAt.load 5 Tryz.hT rfl ((fun W hp => hrow.hp hp) W hp) rfl) ?_ | refine wl_load rfl rfl rfl rfl (fun W hp => RowAt.load 6 Tryz.hT rfl ((fun W hp => hrow.hp hp) W hp) rfl) ?_ | refine wl_load rfl rfl rfl rfl (fun W hp => RowAt.load 7 Tryz.hT rfl ((fun W hp => hrow.hp hp) W hp) rfl) ?_ | refine wq_load rfl rfl rfl rfl (fun W hp => RowAt.load 0 Tryz.hT rfl ((fun W hp => hrow.hp hp) W hp) rfl) ?_ | refine wq_load rfl rfl rfl rfl (fun W hp => RowAt.load 1 Tryz.hT rfl ((fun W hp => hrow.hp hp) W hp) rfl) ?_ | refine wq_load rfl rfl rfl rfl (fun W hp => RowAt.load 2 Tryz.hT rfl ((fun W hp => hrow.hp hp) W hp) rfl) ?_ | refine wq_load rfl rfl rfl rfl (fun W hp => RowAt.load 3 Tryz.hT rfl ((fun W hp => hrow.hp hp) W hp) rfl) ?_ | refine wq_load rfl rfl rfl rfl (fun W hp => RowAt.load 4 Tryz.hT rfl ((fun W hp => hrow.hp hp) W hp) rfl) ?_ | refine wq_load rfl rfl rfl rfl (fun W hp => RowAt.load 5 Tryz.hT rfl ((fun W hp => hrow.hp hp) W hp) rfl) ?_ | refine wq_load rfl rfl rfl rfl (fun W hp => RowAt.load 6 Tryz.hT rfl ((fun W hp => hrow.hp hp) W hp) rfl) ?_ | refine wq_load rfl rfl rfl rfl (fun W hp => RowAt.load 7 Tryz.hT rfl ((fun W hp => hrow.hp hp) W hp) rfl) ?_)
      refine wl_pure Tryz.hT rfl rfl rfl ?_
      refine wl_nil ?_
      repeat (first | refine zA ?_ | refine zB ?_ | refine zC ?_ | refine zD ?_ | refine zE ?_ | refine zF ?_ | refine zG ?_ | refine zH ?_ | refine zI ?_ | refine zJ ?_ | refine zK ?_ | refine zL ?_ | refine zM rfl ?_ | refine zN ?_ | refine zO ?_ | refine zP ?_ | refine zQ ?_ | refine zR rfl ?_ | refine zS rfl ?_ | refine zT Tryz.mixed (by kernel_rfl) ?_)
      refine wl_pure Tryz.hT rfl rfl rfl ?_
      refine wl_call1 rfl rfl rfl rfl rfl rfl (by kernel_rfl) (fun W h => fnumber_gives p hp W (hv.hp h) (ht.hp h)) ?_
      refine wl_pure Tryz.hT rfl rfl rfl ?_
      refine wl_nil ?_
      repeat (first | refine zA ?_ | refine zB ?_ | refine zC ?_ | refine zD ?_ | refine zE ?_ | refine zF ?_ | refine zG ?_ | refine zH ?_ | refine zI ?_ | refine zJ ?_ | refine zK ?_ | refine zL ?_ | refine zM rfl ?_ | refine zN ?_ | refine zO ?_ | refine zP ?_ | refine zQ ?_ | refine zR rfl ?_ | refine zS rfl ?_ | refine zT Tryz.mixed (by kernel_rfl) ?_)
      iterate 2 refine wl_pure Tryz.hT rfl rfl rfl ?_
      refine wl_nil ?_
      repeat (first | refine zA ?_ | refine zB ?_ | refine zC ?_ | refine zD ?_ | refine zE ?_ | refine zF ?_ | refine zG ?_ | refine zH ?_ | refine zI ?_ | refine zJ ?_ | refine zK ?_ | refine zL ?_ | refine zM rfl ?_ | refine zN ?_ | refine zO ?_ | refine zP ?_ | refine zQ ?_ | refine zR rfl ?_ | refine zS rfl ?_ | refine zT Tryz.mixed (by kernel_rfl) ?_)
      iterate 2 refine wl_pure Tryz.hT rfl rfl rfl ?_
      refine wl_nil ?_
      repeat (first | refine zA ?_ | refine zB ?_ | refine zC ?_ | refine zD ?_ | refine zE ?_ | refine zF ?_ | refine zG ?_ | refine zH ?_ | refine zI ?_ | refine zJ ?_ | refine zK ?_ | refine zL ?_ | refine zM rfl ?_ | refine zN ?_ | refine zO ?_ | refine zP ?_ | refine zQ ?_ | refine zR rfl ?_ | refine zS rfl ?_ | refine zT Tryz.mixed (by kernel_rfl) ?_)
      exact ne_loop 1 (by decide) (by decide) ⟨rfl, rfl, rfl, rfl, trivial⟩ [] rfl
    · repeat (first | refine zA ?_ | refine zB ?_ | refine zC ?_ | refine zD ?_ | refine zE ?_ | refine zF ?_ | refine zG ?_ | refine zH ?_ | refine zI ?_ | refine zJ ?_ | refine zK ?_ | refine zL ?_ | refine zM rfl ?_ | refine zN ?_ | refine zO ?_ | refine zP ?_ | refine zQ ?_ | refine zR rfl ?_ | refine zS rfl ?_ | refine zT Tryz.mixed (by kernel_rfl) ?_)
      refine wl_pure Tryz.hT rfl rfl rfl ?_
      refine wl_nil ?_
      repeat (first | refine zA ?_ | refine zB ?_ | refine zC ?_ | refine zD ?_ | refine zE ?_ | refine zF ?_ | refine zG ?_ | refine zH ?_ | refine zI ?_ | refine zJ ?_ | refine zK ?_ | refine zL ?_ | refine zM rfl ?_ | refine zN ?_ | refine zO ?_ | refine zP ?_ | refine zQ ?_ | refine zR rfl ?_ | refine zS rfl ?_ | refine zT Tryz.mixed (by kernel_rfl) ?_)
      (first | refine wl_indexAddr Tryz.hT rfl rfl rfl rfl rfl rfl rfl (by omega) (by omega) ?_ | refine wq_indexAddr Tryz.hT rfl rfl rfl rfl rfl rfl rfl (by omega) (by omega) ?_)
      (first | refine wl_load rfl rfl rfl rfl (fun W hp => RowAt.load 0 Tryz.hT rfl ((fun W hp => hrow.hp hp) W hp) rfl) ?_ | refine wl_load rfl rfl rfl rfl (fun W hp => RowAt.load 1 Tryz.hT rfl ((fun W hp => hrow.hp hp) W hp) rfl) ?_ | refine wl_load rfl rfl rfl rfl (fun W hp => RowAt.load 2 Tryz.hT rfl ((fun W hp => hrow.hp hp) W hp) rfl) ?_ | refine wl_load rfl rfl rfl rfl (fun W hp => RowAt.load 3 Tryz.hT rfl ((fun W hp => hrow.hp hp) W hp) rfl) ?_ | refine wl_load rfl rfl rfl rfl (fun W hp => RowAt.load 4 Tryz.hT rfl ((fun W hp => hrow.hp hp) W hp) rfl) ?_ | refine wl_load rfl rfl rfl rfl (fun W hp => RowAt.load 5 Tryz.hT rfl ((fun W hp => hrow.hp hp) W hp) rfl) ?_ | refine wl_load rfl rfl rfl rfl (fun W hp => RowAt.load 6 Tryz.hT rfl ((fun W hp => hrow.hp hp) W hp) rfl) ?_ | refine wl_load rfl rfl rfl rfl (fun W hp => RowAt.load 7 Tryz.hT rfl ((fun W hp => hrow.hp hp) W hp) rfl) ?_ | refine wq_load rfl rfl rfl rfl (fun W hp => RowAt.load 0 Tryz.hT rfl ((fun W hp => hrow.hp hp) W hp) rfl) ?_ | refine wq_load rfl rfl rfl rfl (fun W hp => RowAt.load 1 Tryz.hT rfl ((fun W hp => hrow.hp hp) W hp) rfl) ?_ | refine wq_load rfl rfl rfl rfl (fun W hp => RowAt.load 2 Tryz.hT rfl ((fun W hp => hrow.hp hp) W hp) rfl) ?_ | refine wq_load rfl rfl rfl rfl (fun W hp => RowAt.load 3 Tryz.hT rfl ((fun W hp => hrow.hp hp) W hp) rfl) ?_ | refine wq_load rfl rfl rfl rfl (fun W hp => RowAt.load 4 Tryz.hT rfl ((fun W hp => hrow.hp hp) W hp) rfl) ?_ | refine wq_load rfl rfl rfl rfl (fun W hp => RowAt.load 5 Tryz.hT rfl ((fun W hp => hrow.hp hp) W hp) rfl) ?_ | refine wq_load rfl rfl rfl rfl (fun W hp => RowAt.load 6 Tryz.hT rfl ((fun W hp => hrow.hp hp) W hp) rfl) ?_ | refine wq_load rfl rfl rfl rfl (fun W hp => RowAt.load 7 Tryz.hT rfl ((fun W hp => hrow.hp hp) W hp) rfl) ?_)
      refine wl_pure Tryz.hT rfl rfl rfl ?_
      refine wl_nil ?_
      repeat (first | refine zA ?_ | refine zB ?_ | refine zC ?_ | refine zD ?_ | refine zE ?_ | refine zF ?_ | refine zG ?_ | refine zH ?_ | refine zI ?_ | refine zJ ?_ | refine zK ?_ | refine zL ?_ | refine zM rfl ?_ | refine zN ?_ | refine zO ?_ | refine zP ?_ | refine zQ ?_ | refine zR rfl ?_ | refine zS rfl ?_ | refine zT Tryz.mixed (by kernel_rfl) ?_)
      refine wl_pure Tryz.hT rfl rfl rfl ?_
      refine wl_call1 rfl rfl rfl rfl rfl rfl (by kernel_rfl) (fun W h => fnumber_gives q hq W (hv.hp h) (ht.hp h)) ?_
      refine wl_pure Tryz.hT rfl rfl rfl ?_
      refine wl_nil ?_
      repeat (first | refine zA ?_ | refine zB ?_ | refine zC ?_ | refine zD ?_ | refine zE ?_ | refine zF ?_ | refine zG ?_ | refine zH ?_ | refine zI ?_ | refine zJ ?_ | refine zK ?_ | refine zL ?_ | refine zM rfl ?_ | refine zN ?_ | refine zO ?_ | refine zP ?_ | refine zQ ?_ | refine zR rfl ?_ | refine zS rfl ?_ | refine zT Tryz.mixed (by kernel_rfl) ?_)
      iterate 2 refine wl_pure Tryz.hT rfl rfl rfl ?_
      refine wl_nil ?_
      repeat (first | refine zA ?_ | refine zB ?_ | refine zC ?_ | refine zD ?_ | refine zE ?_ | refine zF ?_ | refine zG ?_ | refine zH ?_ | refine zI ?_ | refine zJ ?_ | refine zK ?_ | refine zL ?_ | refine zM rfl ?_ | refine zN ?_ | refine zO ?_ | refine zP ?_ | refine zQ ?_ | refine zR rfl ?_ | refine zS rfl ?_ | refine zT Tryz.mixed (by kernel_rfl) ?_)
      iterate 2 refine wl_pure Tryz.hT rfl rfl rfl ?_
      refine wl_nil ?_
      repeat (first | refine zA ?_ | refine zB ?_ | refine zC ?_ | refine zD ?_ | refine zE ?_ | refine zF ?_ | refine zG ?_ | refine zH ?_ | refine zI ?_ | refine zJ ?_ | refine zK ?_ | refine zL ?_ | refine zM rfl ?_ | refine zN ?_ | refine zO ?_ | refine zP ?_ | refine zQ ?_ | refine zR rfl ?_ | refine zS rfl ?_ | refine zT Tryz.mixed (by kernel_rfl) ?_)
      exact ne_loop 2 (by decide) (by decide) ⟨rfl, rfl, rfl, rfl, trivial⟩ [] rfl
    · repeat (first | refine zA ?_ | refine zB ?_ | refine zC ?_ | refine zD ?_ | refine zE ?_ | refine zF ?_ | refine zG ?_ | refine zH ?_ | refine zI ?_ | refine zJ ?_ | refine zK ?_ | refine zL ?_ | refine zM rfl ?_ | refine zN ?_ | refine zO ?_ | refine zP ?_ | refine zQ ?_ | refine zR rfl ?_ | refine zS rfl ?_ | refine zT Tryz.mixed (by kernel_rfl) ?_)
      refine wl_pure Tryz.hT rfl rfl rfl ?_
      refine wl_nil ?_
      repeat (first | refine zA ?_ | refine zB ?_ | refine zC ?_ | refine zD ?_ | refine zE ?_ | refine zF ?_ | refine zG ?_ | refine zH ?_ | refine zI ?_ | refine zJ ?_ | refine zK ?_ | refine zL ?_ | refine zM rfl ?_ | refine zN ?_ | refine zO ?_ | refine zP ?_ | refine zQ ?_ | refine zR rfl ?_ | refine zS rfl ?_ | refine zT Tryz.mixed (by kernel_rfl) ?_)
      exact ne_cut () trivial ⟨rfl, trivial⟩ _ rfl
  · intro _ _
    repeat (first | refine zA ?_ | refine zB ?_ | refine zC ?_ | refine zD ?_ | refine zE ?_ | refine zF ?_ | refine zG ?_ | refine zH ?_ | refine zI ?_ | refine zJ ?_ | refine zK ?_ | refine zL ?_ | refine zM rfl ?_ | refine zN ?_ | refine zO ?_ | refine zP ?_ | refine zQ ?_ | refine zR rfl ?_ | refine zS rfl ?_ | refine zT Tryz.mixed (by kernel_rfl) ?_)
    refine wl_pure Tryz.hT rfl rfl rfl ?_
    refine wl_nil ?_
    repeat (first | refine zA ?_ | refine zB ?_ | refine zC ?_ | refine zD ?_ | refine zE ?_ | refine zF ?_ | refine zG ?_ | refine zH ?_ | refine zI ?_ | refine zJ ?_ | refine zK ?_ | refine zL ?_ | refine zM rfl ?_ | refine zN ?_ | refine zO ?_ | refine zP ?_ | refine zQ ?_ | refine zR rfl ?_ | refine zS rfl ?_ | refine zT Tryz.mixed (by kernel_rfl) ?_)
    exact ne_ret1 Tryz.hT rfl (.tmp rfl) () rfl trivial fun W _ => NewBx.nil _ _
set_option maxHeartbeats 8000000 in
theorem fDist_gives (f : FrP) (h : f.OK) (x y : Rat) (hx : szQ x 36) (hy : szQ y 36) (W : World) (hv : MaxP W) (ht : TabP W) :
    CallsR Tryz.prog 30 #[frV f, ptV x y] W (fun _ : Unit => .tuple #[str (numS (f.way (if f.ax then x else y))), .int .i64 0]) (fun _ => True) (fun _ => []) := by
  obtain ⟨u, hu⟩ : ∃ u, u = (if f.ax then x else y) := ⟨_, rfl⟩
  have zu : szQ u 36 := by rw [hu]; split <;> assumption
  have z1 := sz2 zu h.posz (by decide)
  have z2 := zu.sub h.posz
  have z3 := sz2 h.hdz z2 (by decide)
  rw [← hu]
  refine calls_enter (args := [frV f, ptV x y]) Tryz.func30 rfl rfl rfl ?_
  repeat (first | refine zA ?_ | refine zB ?_ | refine zC ?_ | refine zD ?_ | refine zE ?_ | refine zF ?_ | refine zG ?_ | refine zH ?_ | refine zI ?_ | refine zJ ?_ | refine zK ?_ | refine zL ?_ | refine zM rfl ?_ | refine zN ?_ | refine zO ?_ | refine zP ?_ | refine zQ ?_ | refine zR rfl ?_ | refine zS rfl ?_ | refine zT Tryz.mixed (by kernel_rfl) ?_)
  (refine wl_box rfl rfl rfl rfl ?_; intro)
  (refine wl_box rfl rfl rfl rfl ?_; intro)
  iterate 2 refine wl_pure Tryz.hT rfl rfl rfl ?_
  refine wl_nil ?_
  rename_i b2 b3
  repeat (first | refine zA ?_ | refine zB ?_ | refine zC ?_ | refine zD ?_ | refine zE ?_ | refine zF ?_ | refine zG ?_ | refine zH ?_ | refine zI ?_ | refine zJ ?_ | refine zK ?_ | refine zL ?_ | refine zM rfl ?_ | refine zN ?_ | refine zO ?_ | refine zP ?_ | refine zQ ?_ | refine zR rfl ?_ | refine zS rfl ?_ | refine zT Tryz.mixed (by kernel_rfl) ?_)
  (first | refine wl_loadBx 0 Tryz.hT rfl rfl rfl rfl rfl rfl rfl rfl ?_ | refine wl_loadBx 1 Tryz.hT rfl rfl rfl rfl rfl rfl rfl rfl ?_ | refine wl_loadBx 2 Tryz.hT rfl rfl rfl rfl rfl rfl rfl rfl ?_ | refine wl_loadBx 3 Tryz.hT rfl rfl rfl rfl rfl rfl rfl rfl ?_ | refine wl_loadBx 4 Tryz.hT rfl rfl rfl rfl rfl rfl rfl rfl ?_)
  refine wl_pure Tryz.hT rfl rfl rfl ?_
  (first | refine wl_loadBx 0 Tryz.hT rfl rfl rfl rfl rfl rfl rfl rfl ?_ | refine wl_loadBx 1 Tryz.hT rfl rfl rfl rfl rfl rfl rfl rfl ?_ | refine wl_loadBx 2 Tryz.hT rfl rfl rfl rfl rfl rfl rfl rfl ?_ | refine wl_loadBx 3 Tryz.hT rfl rfl rfl rfl rfl rfl rfl rfl ?_ | refine wl_loadBx 4 Tryz.hT rfl rfl rfl rfl rfl rfl rfl rfl ?_)
  refine wl_pure Tryz.hT rfl rfl rfl ?_
  (first | refine wl_loadBx 0 Tryz.hT rfl rfl rfl rfl rfl rfl rfl rfl ?_ | refine wl_loadBx 1 Tryz.hT rfl rfl rfl rfl rfl rfl rfl rfl ?_ | refine wl_loadBx 2 Tryz.hT rfl rfl rfl rfl rfl rfl rfl rfl ?_ | refine wl_loadBx 3 Tryz.hT rfl rfl rfl rfl rfl rfl rfl rfl ?_ | refine wl_loadBx 4 Tryz.hT rfl rfl rfl rfl rfl rfl rfl rfl ?_)
  refine wl_buildRowZ Tryz.hZ Tryz.hT rfl rfl rfl rfl rfl rfl rfl rfl rfl rfl rfl fun bS => ?_
  refine wl_call1 rfl rfl rfl rfl rfl rfl (by kernel_rfl) (fun W hp => fstart2_gives f h x y hx hy bS W (hv.hp hp) (ht.hp hp) (RowAt.of_bx hp 2 rfl rfl)) ?_
  refine wl_pure Tryz.hT rfl rfl rfl ?_
  refine wl_nil ?_
  repeat (first | refine zA ?_ | refine zB ?_ | refine zC ?_ | refine zD ?_ | refine zE ?_ | refine zF ?_ | refine zG ?_ | refine zH ?_ | refine zI ?_ | refine zJ ?_ | refine zK ?_ | refine zL ?_ | refine zM rfl ?_ | refine zN ?_ | refine zO ?_ | refine zP ?_ | refine zQ ?_ | refine zR rfl ?_ | refine zS rfl ?_ | refine zT Tryz.mixed (by kernel_rfl) ?_)
  iterate 2 refine wl_pure Tryz.hT rfl rfl rfl ?_
  refine wl_nil ?_
  repeat (first | refine zA ?_ | refine zB ?_ | refine zC ?_ | refine zD ?_ | refine zE ?_ | refine zF ?_ | refine zG ?_ | refine zH ?_ | refine zI ?_ | refine zJ ?_ | refine zK ?_ | refine zL ?_ | refine zM rfl ?_ | refine zN ?_ | refine zO ?_ | refine zP ?_ | refine zQ ?_ | refine zR rfl ?_ | refine zS rfl ?_ | refine zT Tryz.mixed (by kernel_rfl) ?_)
  refine wl_pure Tryz.hT rfl rfl rfl ?_
  (first | refine wl_loadBx 0 Tryz.hT rfl rfl rfl rfl rfl rfl rfl rfl ?_ | refine wl_loadBx 1 Tryz.hT rfl rfl rfl rfl rfl rfl rfl rfl ?_ | refine wl_loadBx 2 Tryz.hT rfl rfl rfl rfl rfl rfl rfl rfl ?_ | refine wl_loadBx 3 Tryz.hT rfl rfl rfl rfl rfl rfl rfl rfl ?_ | refine wl_loadBx 4 Tryz.hT rfl rfl rfl rfl rfl rfl rfl rfl ?_)
  refine wl_pure Tryz.hT rfl rfl rfl ?_
  refine wl_nil ?_
  repeat (first | refine zA ?_ | refine zB ?_ | refine zC ?_ | refine zD ?_ | refine zE ?_ | refine zF ?_ | refine zG ?_ | refine zH ?_ | refine zI ?_ | refine zJ ?_ | refine zK ?_ | refine zL ?_ | refine zM rfl ?_ | refine zN ?_ | refine zO ?_ | refine zP ?_ | refine zQ ?_ | refine zR rfl ?_ | refine zS rfl ?_ | refine zT Tryz.mixed (by kernel_rfl) ?_)
  refine wl_pure Tryz.hT rfl rfl rfl ?_
  (first | refine wl_loadBx 0 Tryz.hT rfl rfl rfl rfl rfl rfl rfl rfl ?_ | refine wl_loadBx 1 Tryz.hT rfl rfl rfl rfl rfl rfl rfl rfl ?_ | refine wl_loadBx 2 Tryz.hT rfl rfl rfl rfl rfl rfl rfl rfl ?_ | refine wl_loadBx 3 Tryz.hT rfl rfl rfl rfl rfl rfl rfl rfl ?_ | refine wl_loadBx 4 Tryz.hT rfl rfl rfl rfl rfl rfl rfl rfl ?_)
  refine wl_nil ?_
  refine ne_then ?_
  try refine wc_seq ?_
  refine wc_cutS (X := Unit) (fun _ => [(2, selfP b2), (7, str (numS u))]) (fun _ => [frB b2 f, ⟨b3, 51, (ptV x y).cells.toList, true, none⟩]) (fun _ => True) ?_ ?_
  · refine wc_cond rfl (fun hax => ?_) (fun hax => ?_)
    · have hax : f.ax = true := hax
      repeat (first | refine zA ?_ | refine zB ?_ | refine zC ?_ | refine zD ?_ | refine zE ?_ | refine zF ?_ | refine zG ?_ | refine zH ?_ | refine zI ?_ | refine zJ ?_ | refine zK ?_ | refine zL ?_ | refine zM rfl ?_ | refine zN ?_ | refine zO ?_ | refine zP ?_ | refine zQ ?_ | refine zR rfl ?_ | refine zS rfl ?_ | refine zT Tryz.mixed (by kernel_rfl) ?_)
      refine wl_pure Tryz.hT rfl rfl rfl ?_
      (first | refine wl_loadBx 0 Tryz.hT rfl rfl rfl rfl rfl rfl rfl rfl ?_ | refine wl_loadBx 1 Tryz.hT rfl rfl rfl rfl rfl rfl rfl rfl ?_ | refine wl_loadBx 2 Tryz.hT rfl rfl rfl rfl rfl rfl rfl rfl ?_ | refine wl_loadBx 3 Tryz.hT rfl rfl rfl rfl rfl rfl rfl rfl ?_ | refine wl_loadBx 4 Tryz.hT rfl rfl rfl rfl rfl rfl rfl rfl ?_)
      refine wl_pure Tryz.hT rfl rfl rfl ?_
      refine wl_nil ?_
      repeat (first | refine zA ?_ | refine zB ?_ | refine zC ?_ | refine zD ?_ | refine zE ?_ | refine zF ?_ | refine zG ?_ | refine zH ?_ | refine zI ?_ | refine zJ ?_ | refine zK ?_ | refine zL ?_ | refine zM rfl ?_ | refine zN ?_ | refine zO ?_ | refine zP ?_ | refine zQ ?_ | refine zR rfl ?_ | refine zS rfl ?_ | refine zT Tryz.mixed (by kernel_rfl) ?_)
      exact ne_cut () trivial ⟨rfl, by rw [hu, if_pos hax]; rfl, trivial⟩ [_] rfl
    · have hax : f.ax = false := hax
      repeat (first | refine zA ?_ | refine zB ?_ | refine zC ?_ | refine zD ?_ | refine zE ?_ | refine zF ?_ | refine zG ?_ | refine zH ?_ | refine zI ?_ | refine zJ ?_ | refine zK ?_ | refine zL ?_ | refine zM rfl ?_ | refine zN ?_ | refine zO ?_ | refine zP ?_ | refine zQ ?_ | refine zR rfl ?_ | refine zS rfl ?_ | refine zT Tryz.mixed (by kernel_rfl) ?_)
      exact ne_cut () trivial ⟨rfl, by rw [hu, if_neg (by rw [hax]; decide)]; rfl, trivial⟩ [_] rfl
  intro _ _
  repeat (first | refine zA ?_ | refine zB ?_ | refine zC ?_ | refine zD ?_ | refine zE ?_ | refine zF ?_ | refine zG ?_ | refine zH ?_ | refine zI ?_ | refine zJ ?_ | refine zK ?_ | refine zL ?_ | refine zM rfl ?_ | refine zN ?_ | refine zO ?_ | refine zP ?_ | refine zQ ?_ | refine zR rfl ?_ | refine zS rfl ?_ | refine zT Tryz.mixed (by kernel_rfl) ?_)
  refine wq_pure Tryz.hT rfl rfl rfl ?_
  (first | refine wq_loadBx 0 Tryz.hT rfl rfl rfl rfl rfl rfl rfl rfl ?_ | refine wq_loadBx 1 Tryz.hT rfl rfl rfl rfl rfl rfl rfl rfl ?_ | refine wq_loadBx 2 Tryz.hT rfl rfl rfl rfl rfl rfl rfl rfl ?_ | refine wq_loadBx 3 Tryz.hT rfl rfl rfl rfl rfl rfl rfl rfl ?_ | refine wq_loadBx 4 Tryz.hT rfl rfl rfl rfl rfl rfl rfl rfl ?_)
  refine wq_call1 rfl rfl rfl rfl rfl rfl (by kernel_rfl) (fun W hp => fwhole_gives f.hd h.hd64 W (ht.hp hp)) ?_
  iterate 2 refine wq_pure Tryz.hT rfl rfl rfl ?_
  (first | refine wq_loadBx 0 Tryz.hT rfl rfl rfl rfl rfl rfl rfl rfl ?_ | refine wq_loadBx 1 Tryz.hT rfl rfl rfl rfl rfl rfl rfl rfl ?_ | refine wq_loadBx 2 Tryz.hT rfl rfl rfl rfl rfl rfl rfl rfl ?_ | refine wq_loadBx 3 Tryz.hT rfl rfl rfl rfl rfl rfl rfl rfl ?_ | refine wq_loadBx 4 Tryz.hT rfl rfl rfl rfl rfl rfl rfl rfl ?_)
  refine wq_call1 rfl rfl rfl rfl rfl rfl (by kernel_rfl) (fun W hp => fwhole_gives f.pos h.pos64 W (ht.hp hp)) ?_
  refine wq_call1 rfl rfl rfl rfl rfl rfl (by kernel_rfl) (fun W hp => fsub_gives u (f.pos : Rat) z1 W (hv.hp hp) (ht.hp hp)) ?_
  refine wq_call1 rfl rfl rfl rfl rfl rfl (by kernel_rfl) (fun W hp => fmul_gives (f.hd : Rat) (u - (f.pos : Rat)) z3 W (hv.hp hp) (ht.hp hp)) ?_
  iterate 2 refine wq_pure Tryz.hT rfl rfl rfl ?_
  refine wq_nil ?_
  refine wl_nil ?_
  repeat (first | refine zA ?_ | refine zB ?_ | refine zC ?_ | refine zD ?_ | refine zE ?_ | refine zF ?_ | refine zG ?_ | refine zH ?_ | refine zI ?_ | refine zJ ?_ | refine zK ?_ | refine zL ?_ | refine zM rfl ?_ | refine zN ?_ | refine zO ?_ | refine zP ?_ | refine zQ ?_ | refine zR rfl ?_ | refine zS rfl ?_ | refine zT Tryz.mixed (by kernel_rfl) ?_)
  exact ne_ret2 Tryz.hT rfl (.tmp rfl) (.tmp rfl) () rfl trivial fun W _ => NewBx.nil _ _
theorem plane_law {f : FrP} (h : f.OK) {z : Rat} (hz : f.st ≤ z) (h0 : f.sp ≠ 0) : f.slope * f.at z + f.base = z := by
  rw [FrP.at_ge hz, FrP.base, FrP.slope, FrP.vel]
  rcases h.hd2 with e | e <;> rw [e] <;> grind
theorem dist_law {f : FrP} (h : f.OK) {z : Rat} (hz : f.st ≤ z) : f.way (f.at z) = f.sp * (z - f.st) := by
  rw [FrP.way, FrP.at_ge hz, FrP.vel]
  rcases h.hd2 with e | e <;> rw [e] <;> grind
theorem sz0 : szQ (0 : Rat) 1 := szQ_int (z := 0) (by decide) (by decide)
theorem htz {a b c x y : Rat} {i j k m n : Nat} (ha : szQ a i) (hb : szQ b j) (hc : szQ c k) (hx : szQ x m) (hy : szQ y n) (hk : i + m + (j + n) + k + 10 ≤ 300) : HtZ a b c x y := by
  have p1 := ha.mul hx
  have p2 := hb.mul hy
  refine ⟨sz2 ha hx (by omega), sz2 hb hy (by omega), fun q hq => ?_, fun l hl => ?_⟩
  · rcases List.mem_cons.1 hq with rfl | hq
    · exact p1.ok (by omega)
    · rcases List.mem_cons.1 hq with rfl | hq
      · exact p2.ok (by omega)
      · obtain rfl := List.mem_singleton.1 hq
        exact hc.ok (by omega)
  · have s1 := sz0.add p1
    have s2 := s1.add p2
    have hl3 : l < 3 := hl
    rcases (show l = 0 ∨ l = 1 ∨ l = 2 by omega) with rfl | rfl | rfl
    · exact sz2 sz0 p1 (by omega)
    · exact sz2 s1 p2 (by omega)
    · exact sz2 s2 hc (by omega)
set_option maxHeartbeats 16000000 in
theorem planesF_gives (x : SmP) (hx : x.OK) (l : Int) (hl : -128 ≤ l ∧ l ≤ 127) (a : Nat) (ha : a < 256) (W : World) (hv : MaxP W) (ht : TabP W) :
    CallsR Tryz.prog 8 #[smV x, .int .u8 (a : Nat), .int .i8 l] W (fun _ : Unit => .bool true) (fun _ => True) (fun _ => []) := by
  have hsm := hx.sm
  have hok := hx.fr
  have hs := hx.s
  obtain ⟨f, hf⟩ : ∃ f, f = x.of := ⟨_, rfl⟩
  have hst : f.st = ((x.s : Int) : Rat) := by rw [hf]; rfl
  obtain ⟨z, hz⟩ : ∃ z, z = nrm ((4 * x.s + a : Nat) : Int) 4 := ⟨_, rfl⟩
  have hlof : ∀ W, TabP W → CallsR Tryz.prog 13 #[smV x] W (fun _ : Unit => frV f) (fun _ => True) (fun _ => []) := fun W ht => by rw [hf]; exact lof_gives x hx W ht
  rw [← hf] at hsm hok
  have zz : szQ z 5 := hz ▸ qtr_sz (by rw [Int.natAbs_natCast]; show _ < 100000; omega) (by decide)
  have zat := at_sz hsm zz
  have hle : f.st ≤ z := by
    refine Rat.not_lt.1 fun h => ?_
    rw [hst, hz, qtr_lt] at h
    omega
  have hab : z - f.st = nrm (a : Int) 4 := by
    rw [hst, hz, qtr_eq, qtr_eq]
    have e : (((4 * x.s + a : Nat) : Int) : Rat) = 4 * ((x.s : Int) : Rat) + ((a : Int) : Rat) := by
      rw [show ((4 * x.s + a : Nat) : Int) = 4 * (x.s : Int) + (a : Int) by omega, Rat.intCast_add, Rat.intCast_mul]; rfl
    rw [e]; grind
  have za : szQ (nrm (a : Int) 4) 3 := qtr_sz (by rw [Int.natAbs_natCast]; show _ < 1000; omega) (by decide)
  have zl : szQ ((l : Int) : Rat) 3 := szQ_int (by show _ < 1000; omega) (by decide)
  refine calls_enter (args := [smV x, .int .u8 (a : Nat), .int .i8 l]) Tryz.func8 rfl rfl rfl ?_
  repeat (first | refine zA ?_ | refine zB ?_ | refine zC ?_ | refine zD ?_ | refine zE ?_ | refine zF ?_ | refine zG ?_ | refine zH ?_ | refine zI ?_ | refine zJ ?_ | refine zK ?_ | refine zL ?_ | refine zM rfl ?_ | refine zN ?_ | refine zO ?_ | refine zP ?_ | refine zQ ?_ | refine zR rfl ?_ | refine zS rfl ?_ | refine zT Tryz.mixed (by kernel_rfl) ?_)
  (refine wl_box rfl rfl rfl rfl ?_; intro)
  refine wl_pure Tryz.hT rfl rfl rfl ?_
  refine wl_nil ?_
  rename_i b3
  repeat (first | refine zA ?_ | refine zB ?_ | refine zC ?_ | refine zD ?_ | refine zE ?_ | refine zF ?_ | refine zG ?_ | refine zH ?_ | refine zI ?_ | refine zJ ?_ | refine zK ?_ | refine zL ?_ | refine zM rfl ?_ | refine zN ?_ | refine zO ?_ | refine zP ?_ | refine zQ ?_ | refine zR rfl ?_ | refine zS rfl ?_ | refine zT Tryz.mixed (by kernel_rfl) ?_)
  (first | refine wl_loadBx 0 Tryz.hT rfl rfl rfl rfl rfl rfl rfl rfl ?_ | refine wl_loadBx 1 Tryz.hT rfl rfl rfl rfl rfl rfl rfl rfl ?_ | refine wl_loadBx 2 Tryz.hT rfl rfl rfl rfl rfl rfl rfl rfl ?_ | refine wl_loadBx 3 Tryz.hT rfl rfl rfl rfl rfl rfl rfl rfl ?_ | refine wl_loadBx 4 Tryz.hT rfl rfl rfl rfl rfl rfl rfl rfl ?_)
  refine wl_call1 rfl rfl rfl rfl rfl rfl (by kernel_rfl) (fun W hp => hlof W (ht.hp hp)) ?_
  (refine wl_allocZ Tryz.hZ rfl rfl rfl rfl ?_; intro)
  (first | refine wl_storeBx 0 Tryz.hT rfl rfl rfl rfl rfl rfl rfl rfl rfl rfl rfl ?_ | refine wl_storeBx 1 Tryz.hT rfl rfl rfl rfl rfl rfl rfl rfl rfl rfl rfl ?_ | refine wl_storeBx 2 Tryz.hT rfl rfl rfl rfl rfl rfl rfl rfl rfl rfl rfl ?_ | refine wl_storeBx 3 Tryz.hT rfl rfl rfl rfl rfl rfl rfl rfl rfl rfl rfl ?_ | refine wl_storeBx 4 Tryz.hT rfl rfl rfl rfl rfl rfl rfl rfl rfl rfl rfl ?_)
  refine wl_nil ?_
  rename_i b7
  repeat (first | refine zA ?_ | refine zB ?_ | refine zC ?_ | refine zD ?_ | refine zE ?_ | refine zF ?_ | refine zG ?_ | refine zH ?_ | refine zI ?_ | refine zJ ?_ | refine zK ?_ | refine zL ?_ | refine zM rfl ?_ | refine zN ?_ | refine zO ?_ | refine zP ?_ | refine zQ ?_ | refine zR rfl ?_ | refine zS rfl ?_ | refine zT Tryz.mixed (by kernel_rfl) ?_)
  refine wl_pure Tryz.hT rfl rfl rfl ?_
  (first | refine wl_loadBx 0 Tryz.hT rfl rfl rfl rfl rfl rfl rfl rfl ?_ | refine wl_loadBx 1 Tryz.hT rfl rfl rfl rfl rfl rfl rfl rfl ?_ | refine wl_loadBx 2 Tryz.hT rfl rfl rfl rfl rfl rfl rfl rfl ?_ | refine wl_loadBx 3 Tryz.hT rfl rfl rfl rfl rfl rfl rfl rfl ?_ | refine wl_loadBx 4 Tryz.hT rfl rfl rfl rfl rfl rfl rfl rfl ?_)
  refine wl_cvA Tryz.underlying5 Tryz.underlying3 rfl rfl rfl rfl ?_
  refine wl_upd 24 (.int .i64 (x.s : Nat)) rfl (congrArg (Value.int .i64) (w64_nat (by omega))) ?_
  refine wl_pure Tryz.hT rfl rfl rfl ?_
  refine wl_upd 25 (.int .i64 ((4 * x.s : Nat) : Int)) rfl (congrArg (Value.int .i64) (show w64 (4 * (x.s : Nat)) = _ by rw [w64_id (by omega) (by omega)]; omega)) ?_
  refine wl_pure Tryz.hT rfl rfl rfl ?_
  refine wl_cvA Tryz.underlying5 Tryz.underlying3 rfl rfl rfl rfl ?_
  refine wl_upd 27 (.int .i64 (a : Nat)) rfl (congrArg (Value.int .i64) (w64_nat (by omega))) ?_
  refine wl_pure Tryz.hT rfl rfl rfl ?_
  refine wl_upd 28 (.int .i64 ((4 * x.s + a : Nat) : Int)) rfl (congrArg (Value.int .i64) (show w64 (((4 * x.s : Nat) : Int) + (a : Nat)) = _ by rw [w64_id (by omega) (by omega)]; omega)) ?_
  refine wl_call1 rfl rfl rfl rfl rfl rfl (by kernel_rfl) (fun W hp => (lnum_gives ((4 * x.s + a : Nat) : Int) 4 (by decide) (by omega) (by decide) W (ht.hp hp)).cast (by rw [← hz])) ?_
  refine wl_pure Tryz.hT rfl rfl rfl ?_
  refine wl_nil ?_
  repeat (first | refine zA ?_ | refine zB ?_ | refine zC ?_ | refine zD ?_ | refine zE ?_ | refine zF ?_ | refine zG ?_ | refine zH ?_ | refine zI ?_ | refine zJ ?_ | refine zK ?_ | refine zL ?_ | refine zM rfl ?_ | refine zN ?_ | refine zO ?_ | refine zP ?_ | refine zQ ?_ | refine zR rfl ?_ | refine zS rfl ?_ | refine zT Tryz.mixed (by kernel_rfl) ?_)
  (first | refine wl_loadBx 0 Tryz.hT rfl rfl rfl rfl rfl rfl rfl rfl ?_ | refine wl_loadBx 1 Tryz.hT rfl rfl rfl rfl rfl rfl rfl rfl ?_ | refine wl_loadBx 2 Tryz.hT rfl rfl rfl rfl rfl rfl rfl rfl ?_ | refine wl_loadBx 3 Tryz.hT rfl rfl rfl rfl rfl rfl rfl rfl ?_ | refine wl_loadBx 4 Tryz.hT rfl rfl rfl rfl rfl rfl rfl rfl ?_)
  refine wl_pure Tryz.hT rfl rfl rfl ?_
  refine wl_call1 rfl rfl rfl rfl rfl rfl (by kernel_rfl) (fun W hp => fPos_gives f hok z (zz.mono (by decide)) W (hv.hp hp) (ht.hp hp)) ?_
  iterate 5 refine wl_pure Tryz.hT rfl rfl rfl ?_
  refine wl_nil ?_
  repeat (first | refine zA ?_ | refine zB ?_ | refine zC ?_ | refine zD ?_ | refine zE ?_ | refine zF ?_ | refine zG ?_ | refine zH ?_ | refine zI ?_ | refine zJ ?_ | refine zK ?_ | refine zL ?_ | refine zM rfl ?_ | refine zN ?_ | refine zO ?_ | refine zP ?_ | refine zQ ?_ | refine zR rfl ?_ | refine zS rfl ?_ | refine zT Tryz.mixed (by kernel_rfl) ?_)
  (first | refine wl_loadBx 0 Tryz.hT rfl rfl rfl rfl rfl rfl rfl rfl ?_ | refine wl_loadBx 1 Tryz.hT rfl rfl rfl rfl rfl rfl rfl rfl ?_ | refine wl_loadBx 2 Tryz.hT rfl rfl rfl rfl rfl rfl rfl rfl ?_ | refine wl_loadBx 3 Tryz.hT rfl rfl rfl rfl rfl rfl rfl rfl ?_ | refine wl_loadBx 4 Tryz.hT rfl rfl rfl rfl rfl rfl rfl rfl ?_)
  by_cases h0 : f.sp = 0
  · refine wl_call1 rfl rfl rfl rfl rfl rfl (by kernel_rfl) (fun W hp => (fPlane_gives f hok W (hv.hp hp) (ht.hp hp)).cast (show f.plane = .tuple #[.agg #[str [], str [], str []], .int .i64 8] from if_pos (by rw [h0]; rfl))) ?_
    iterate 3 refine wl_pure Tryz.hT rfl rfl rfl ?_
    (refine wl_allocZ Tryz.hZ rfl rfl rfl rfl ?_; intro)
    (first | refine wl_storeBx 0 Tryz.hT rfl rfl rfl rfl rfl rfl rfl rfl rfl rfl rfl ?_ | refine wl_storeBx 1 Tryz.hT rfl rfl rfl rfl rfl rfl rfl rfl rfl rfl rfl ?_ | refine wl_storeBx 2 Tryz.hT rfl rfl rfl rfl rfl rfl rfl rfl rfl rfl rfl ?_ | refine wl_storeBx 3 Tryz.hT rfl rfl rfl rfl rfl rfl rfl rfl rfl rfl rfl ?_ | refine wl_storeBx 4 Tryz.hT rfl rfl rfl rfl rfl rfl rfl rfl rfl rfl rfl ?_)
    refine wl_pure Tryz.hT rfl rfl rfl ?_
    refine wl_nil ?_
    rename_i b11
    repeat (first | refine zA ?_ | refine zB ?_ | refine zC ?_ | refine zD ?_ | refine zE ?_ | refine zF ?_ | refine zG ?_ | refine zH ?_ | refine zI ?_ | refine zJ ?_ | refine zK ?_ | refine zL ?_ | refine zM rfl ?_ | refine zN ?_ | refine zO ?_ | refine zP ?_ | refine zQ ?_ | refine zR rfl ?_ | refine zS rfl ?_ | refine zT Tryz.mixed (by kernel_rfl) ?_)
    refine wl_pure Tryz.hT rfl rfl rfl ?_
    (first | refine wl_loadBx 0 Tryz.hT rfl rfl rfl rfl rfl rfl rfl rfl ?_ | refine wl_loadBx 1 Tryz.hT rfl rfl rfl rfl rfl rfl rfl rfl ?_ | refine wl_loadBx 2 Tryz.hT rfl rfl rfl rfl rfl rfl rfl rfl ?_ | refine wl_loadBx 3 Tryz.hT rfl rfl rfl rfl rfl rfl rfl rfl ?_ | refine wl_loadBx 4 Tryz.hT rfl rfl rfl rfl rfl rfl rfl rfl ?_)
    refine wl_pure Tryz.hT rfl rfl rfl ?_
    refine wl_upd 43 (.bool true) rfl (congrArg Value.bool ((strEqB _ _).trans (decide_eq_true (by rw [h0, numS_zero])))) ?_
    refine wl_nil ?_
    repeat (first | refine zA ?_ | refine zB ?_ | refine zC ?_ | refine zD ?_ | refine zE ?_ | refine zF ?_ | refine zG ?_ | refine zH ?_ | refine zI ?_ | refine zJ ?_ | refine zK ?_ | refine zL ?_ | refine zM rfl ?_ | refine zN ?_ | refine zO ?_ | refine zP ?_ | refine zQ ?_ | refine zR rfl ?_ | refine zS rfl ?_ | refine zT Tryz.mixed (by kernel_rfl) ?_)
    iterate 3 refine wl_pure Tryz.hT rfl rfl rfl ?_
    (first | refine wl_pure Tryz.hT rfl rfl rfl ?_ | refine wl_skip rfl rfl ?_)
    (first | refine wl_pure Tryz.hT rfl rfl rfl ?_ | refine wl_skip rfl rfl ?_)
    iterate 2 refine wl_pure Tryz.hT rfl rfl rfl ?_
    refine wl_call1 rfl rfl rfl rfl rfl rfl (by kernel_rfl) (fun W hp => awakeF_gives W (hv.hp hp) (ht.hp hp)) ?_
    iterate 2 refine wl_pure Tryz.hT rfl rfl rfl ?_
    refine wl_nil ?_
    repeat (first | refine zA ?_ | refine zB ?_ | refine zC ?_ | refine zD ?_ | refine zE ?_ | refine zF ?_ | refine zG ?_ | refine zH ?_ | refine zI ?_ | refine zJ ?_ | refine zK ?_ | refine zL ?_ | refine zM rfl ?_ | refine zN ?_ | refine zO ?_ | refine zP ?_ | refine zQ ?_ | refine zR rfl ?_ | refine zS rfl ?_ | refine zT Tryz.mixed (by kernel_rfl) ?_)
    exact ne_ret1 Tryz.hT rfl (.tmp rfl) () rfl trivial fun W _ => NewBx.nil _ _
  have hpl := plane_law hok hle h0
  have hdi := dist_law hok hle
  have zsl : szQ f.slope 2 := hok.hdz.div hsm.sp (num_ne h0)
  have zba : szQ f.base 11 := hsm.st.sub (zsl.mul hok.posz)
  obtain ⟨P, hP⟩ : ∃ P : Rat × Rat × Rat × Rat, P = (if f.ax then (f.slope, 0, f.at z, (l : Rat)) else (0, f.slope, (l : Rat), f.at z)) := ⟨_, rfl⟩
  have hsum : 0 + P.1 * P.2.2.1 + P.2.1 * P.2.2.2 + f.base = z := by rw [hP]; split <;> simp only <;> grind
  have hwhich : (if f.ax then P.2.2.1 else P.2.2.2) = f.at z := by rw [hP]; cases f.ax <;> rfl
  have sizA : szQ P.1 2 := by rw [hP]; split; exact zsl; exact sz0.mono (by decide)
  have sizB : szQ P.2.1 2 := by rw [hP]; split; exact sz0.mono (by decide); exact zsl
  have sizX : szQ P.2.2.1 17 := by rw [hP]; split; exact zat; exact zl.mono (by decide)
  have sizY : szQ P.2.2.2 17 := by rw [hP]; split; exact zl.mono (by decide); exact zat
  have hplane : f.plane = .tuple #[plV P.1 P.2.1 f.base, .int .i64 0] := by
    rw [FrP.plane, if_neg (num_ne h0), hP]
    cases f.ax
    · simp only [Bool.false_eq_true, if_false, plV, numS_zero]
    · simp only [if_true, plV, numS_zero]
  refine wl_call1 rfl rfl rfl rfl rfl rfl (by kernel_rfl) (fun W hp => (fPlane_gives f hok W (hv.hp hp) (ht.hp hp)).cast hplane) ?_
  iterate 3 refine wl_pure Tryz.hT rfl rfl rfl ?_
  (refine wl_allocZ Tryz.hZ rfl rfl rfl rfl ?_; intro)
  (first | refine wl_storeBx 0 Tryz.hT rfl rfl rfl rfl rfl rfl rfl rfl rfl rfl rfl ?_ | refine wl_storeBx 1 Tryz.hT rfl rfl rfl rfl rfl rfl rfl rfl rfl rfl rfl ?_ | refine wl_storeBx 2 Tryz.hT rfl rfl rfl rfl rfl rfl rfl rfl rfl rfl rfl ?_ | refine wl_storeBx 3 Tryz.hT rfl rfl rfl rfl rfl rfl rfl rfl rfl rfl rfl ?_ | refine wl_storeBx 4 Tryz.hT rfl rfl rfl rfl rfl rfl rfl rfl rfl rfl rfl ?_)
  refine wl_pure Tryz.hT rfl rfl rfl ?_
  refine wl_nil ?_
  rename_i b11
  repeat (first | refine zA ?_ | refine zB ?_ | refine zC ?_ | refine zD ?_ | refine zE ?_ | refine zF ?_ | refine zG ?_ | refine zH ?_ | refine zI ?_ | refine zJ ?_ | refine zK ?_ | refine zL ?_ | refine zM rfl ?_ | refine zN ?_ | refine zO ?_ | refine zP ?_ | refine zQ ?_ | refine zR rfl ?_ | refine zS rfl ?_ | refine zT Tryz.mixed (by kernel_rfl) ?_)
  refine wl_pure Tryz.hT rfl rfl rfl ?_
  (first | refine wl_loadBx 0 Tryz.hT rfl rfl rfl rfl rfl rfl rfl rfl ?_ | refine wl_loadBx 1 Tryz.hT rfl rfl rfl rfl rfl rfl rfl rfl ?_ | refine wl_loadBx 2 Tryz.hT rfl rfl rfl rfl rfl rfl rfl rfl ?_ | refine wl_loadBx 3 Tryz.hT rfl rfl rfl rfl rfl rfl rfl rfl ?_ | refine wl_loadBx 4 Tryz.hT rfl rfl rfl rfl rfl rfl rfl rfl ?_)
  refine wl_pure Tryz.hT rfl rfl rfl ?_
  refine wl_upd 43 (.bool false) rfl (congrArg Value.bool ((strEqB _ _).trans ((numS_eq0 f.sp).trans (decide_eq_false h0)))) ?_
  refine wl_nil ?_
  repeat (first | refine zA ?_ | refine zB ?_ | refine zC ?_ | refine zD ?_ | refine zE ?_ | refine zF ?_ | refine zG ?_ | refine zH ?_ | refine zI ?_ | refine zJ ?_ | refine zK ?_ | refine zL ?_ | refine zM rfl ?_ | refine zN ?_ | refine zO ?_ | refine zP ?_ | refine zQ ?_ | refine zR rfl ?_ | refine zS rfl ?_ | refine zT Tryz.mixed (by kernel_rfl) ?_)
  refine wl_pure Tryz.hT rfl rfl rfl ?_
  refine wl_cvA Tryz.underlying62 Tryz.underlying3 rfl rfl rfl rfl ?_
  refine wl_upd 54 (.int .i64 l) rfl (congrArg (Value.int .i64) (w64_id (by omega) (by omega))) ?_
  refine wl_call1 rfl rfl rfl rfl rfl rfl (by kernel_rfl) (fun W hp => (lnum_gives l 1 (by decide) (by omega) (by decide) W (ht.hp hp)).cast (by rw [wholeQ])) ?_
  refine wl_pure Tryz.hT rfl rfl rfl ?_
  refine wl_buildZ Tryz.hZ Tryz.hT rfl rfl rfl rfl rfl rfl rfl rfl ?_
  (refine wl_allocZ Tryz.hZ rfl rfl rfl rfl ?_; intro)
  (first | refine wl_storeBx 0 Tryz.hT rfl rfl rfl rfl rfl rfl rfl rfl rfl rfl rfl ?_ | refine wl_storeBx 1 Tryz.hT rfl rfl rfl rfl rfl rfl rfl rfl rfl rfl rfl ?_ | refine wl_storeBx 2 Tryz.hT rfl rfl rfl rfl rfl rfl rfl rfl rfl rfl rfl ?_ | refine wl_storeBx 3 Tryz.hT rfl rfl rfl rfl rfl rfl rfl rfl rfl rfl rfl ?_ | refine wl_storeBx 4 Tryz.hT rfl rfl rfl rfl rfl rfl rfl rfl rfl rfl rfl ?_)
  refine wl_nil ?_
  rename_i b13
  repeat (first | refine zA ?_ | refine zB ?_ | refine zC ?_ | refine zD ?_ | refine zE ?_ | refine zF ?_ | refine zG ?_ | refine zH ?_ | refine zI ?_ | refine zJ ?_ | refine zK ?_ | refine zL ?_ | refine zM rfl ?_ | refine zN ?_ | refine zO ?_ | refine zP ?_ | refine zQ ?_ | refine zR rfl ?_ | refine zS rfl ?_ | refine zT Tryz.mixed (by kernel_rfl) ?_)
  refine wl_pure Tryz.hT rfl rfl rfl ?_
  (first | refine wl_loadBx 0 Tryz.hT rfl rfl rfl rfl rfl rfl rfl rfl ?_ | refine wl_loadBx 1 Tryz.hT rfl rfl rfl rfl rfl rfl rfl rfl ?_ | refine wl_loadBx 2 Tryz.hT rfl rfl rfl rfl rfl rfl rfl rfl ?_ | refine wl_loadBx 3 Tryz.hT rfl rfl rfl rfl rfl rfl rfl rfl ?_ | refine wl_loadBx 4 Tryz.hT rfl rfl rfl rfl rfl rfl rfl rfl ?_)
  refine wl_nil ?_
  refine ne_then ?_
  try refine wc_seq ?_
  refine wc_cutS (X := Unit) (fun _ => [(1, .int .u8 (a : Nat)), (7, selfP b7), (8, str (numS z)), (10, .int .i64 0), (11, selfP b11), (12, .int .i64 0), (13, selfP b13)]) (fun _ => [smB b3 x, frB b7 f, ⟨b11, 57, (plV P.1 P.2.1 f.base).cells.toList, true, none⟩, ⟨b13, 51, (ptV P.2.2.1 P.2.2.2).cells.toList, true, none⟩]) (fun _ => True) ?_ ?_
  · refine wc_cond rfl (fun hax => ?_) (fun hax => ?_)
    · have hax : f.ax = true := hax
      have hP2 : P.2.2 = (f.at z, (l : Rat)) := by rw [hP, if_pos hax]
      repeat (first | refine zA ?_ | refine zB ?_ | refine zC ?_ | refine zD ?_ | refine zE ?_ | refine zF ?_ | refine zG ?_ | refine zH ?_ | refine zI ?_ | refine zJ ?_ | refine zK ?_ | refine zL ?_ | refine zM rfl ?_ | refine zN ?_ | refine zO ?_ | refine zP ?_ | refine zQ ?_ | refine zR rfl ?_ | refine zS rfl ?_ | refine zT Tryz.mixed (by kernel_rfl) ?_)
      iterate 2 refine wl_pure Tryz.hT rfl rfl rfl ?_
      refine wl_cvA Tryz.underlying62 Tryz.underlying3 rfl rfl rfl rfl ?_
      refine wl_upd 62 (.int .i64 l) rfl (congrArg (Value.int .i64) (w64_id (by omega) (by omega))) ?_
      refine wl_call1 rfl rfl rfl rfl rfl rfl (by kernel_rfl) (fun W hp => (lnum_gives l 1 (by decide) (by omega) (by decide) W (ht.hp hp)).cast (by rw [wholeQ])) ?_
      refine wl_buildZ Tryz.hZ Tryz.hT rfl rfl rfl rfl rfl rfl rfl rfl ?_
      (first | refine wl_storeBx 0 Tryz.hT rfl rfl rfl rfl rfl rfl rfl rfl rfl rfl rfl ?_ | refine wl_storeBx 1 Tryz.hT rfl rfl rfl rfl rfl rfl rfl rfl rfl rfl rfl ?_ | refine wl_storeBx 2 Tryz.hT rfl rfl rfl rfl rfl rfl rfl rfl rfl rfl rfl ?_ | refine wl_storeBx 3 Tryz.hT rfl rfl rfl rfl rfl rfl rfl rfl rfl rfl rfl ?_ | refine wl_storeBx 4 Tryz.hT rfl rfl rfl rfl rfl rfl rfl rfl rfl rfl rfl ?_)
      refine wl_nil ?_
      repeat (first | refine zA ?_ | refine zB ?_ | refine zC ?_ | refine zD ?_ | refine zE ?_ | refine zF ?_ | refine zG ?_ | refine zH ?_ | refine zI ?_ | refine zJ ?_ | refine zK ?_ | refine zL ?_ | refine zM rfl ?_ | refine zN ?_ | refine zO ?_ | refine zP ?_ | refine zQ ?_ | refine zR rfl ?_ | refine zS rfl ?_ | refine zT Tryz.mixed (by kernel_rfl) ?_)
      exact ne_cut () trivial ⟨rfl, rfl, rfl, rfl, rfl, rfl, rfl, trivial⟩ [] (by rw [show P.2.2.1 = f.at z by rw [hP2], show P.2.2.2 = (l : Rat) by rw [hP2]]; rfl)
    · have hax : f.ax = false := hax
      have hP2 : P.2.2 = ((l : Rat), f.at z) := by rw [hP, if_neg (by rw [hax]; decide)]
      repeat (first | refine zA ?_ | refine zB ?_ | refine zC ?_ | refine zD ?_ | refine zE ?_ | refine zF ?_ | refine zG ?_ | refine zH ?_ | refine zI ?_ | refine zJ ?_ | refine zK ?_ | refine zL ?_ | refine zM rfl ?_ | refine zN ?_ | refine zO ?_ | refine zP ?_ | refine zQ ?_ | refine zR rfl ?_ | refine zS rfl ?_ | refine zT Tryz.mixed (by kernel_rfl) ?_)
      exact ne_cut () trivial ⟨rfl, rfl, rfl, rfl, rfl, rfl, rfl, trivial⟩ [] (by rw [show P.2.2.1 = (l : Rat) by rw [hP2], show P.2.2.2 = f.at z by rw [hP2]]; rfl)
  intro _ _
  repeat (first | refine zA ?_ | refine zB ?_ | refine zC ?_ | refine zD ?_ | refine zE ?_ | refine zF ?_ | refine zG ?_ | refine zH ?_ | refine zI ?_ | refine zJ ?_ | refine zK ?_ | refine zL ?_ | refine zM rfl ?_ | refine zN ?_ | refine zO ?_ | refine zP ?_ | refine zQ ?_ | refine zR rfl ?_ | refine zS rfl ?_ | refine zT Tryz.mixed (by kernel_rfl) ?_)
  (first | refine wl_loadBx 0 Tryz.hT rfl rfl rfl rfl rfl rfl rfl rfl ?_ | refine wl_loadBx 1 Tryz.hT rfl rfl rfl rfl rfl rfl rfl rfl ?_ | refine wl_loadBx 2 Tryz.hT rfl rfl rfl rfl rfl rfl rfl rfl ?_ | refine wl_loadBx 3 Tryz.hT rfl rfl rfl rfl rfl rfl rfl rfl ?_ | refine wl_loadBx 4 Tryz.hT rfl rfl rfl rfl rfl rfl rfl rfl ?_)
  (first | refine wl_loadBx 0 Tryz.hT rfl rfl rfl rfl rfl rfl rfl rfl ?_ | refine wl_loadBx 1 Tryz.hT rfl rfl rfl rfl rfl rfl rfl rfl ?_ | refine wl_loadBx 2 Tryz.hT rfl rfl rfl rfl rfl rfl rfl rfl ?_ | refine wl_loadBx 3 Tryz.hT rfl rfl rfl rfl rfl rfl rfl rfl ?_ | refine wl_loadBx 4 Tryz.hT rfl rfl rfl rfl rfl rfl rfl rfl ?_)
  refine wl_call1 rfl rfl rfl rfl rfl rfl (by kernel_rfl) (fun W hp => (planeAt_gives P.1 P.2.1 f.base P.2.2.1 P.2.2.2 (sizA.mono (by decide)) (sizB.mono (by decide)) (zba.mono (by decide)) (sizX.mono (by decide)) (sizY.mono (by decide)) (htz sizA sizB zba sizX sizY (by decide)) W (hv.hp hp) (ht.hp hp)).cast (by rw [hsum])) ?_
  iterate 5 refine wl_pure Tryz.hT rfl rfl rfl ?_
  refine wl_nil ?_
  repeat (first | refine zA ?_ | refine zB ?_ | refine zC ?_ | refine zD ?_ | refine zE ?_ | refine zF ?_ | refine zG ?_ | refine zH ?_ | refine zI ?_ | refine zJ ?_ | refine zK ?_ | refine zL ?_ | refine zM rfl ?_ | refine zN ?_ | refine zO ?_ | refine zP ?_ | refine zQ ?_ | refine zR rfl ?_ | refine zS rfl ?_ | refine zT Tryz.mixed (by kernel_rfl) ?_)
  (first | refine wl_loadBx 0 Tryz.hT rfl rfl rfl rfl rfl rfl rfl rfl ?_ | refine wl_loadBx 1 Tryz.hT rfl rfl rfl rfl rfl rfl rfl rfl ?_ | refine wl_loadBx 2 Tryz.hT rfl rfl rfl rfl rfl rfl rfl rfl ?_ | refine wl_loadBx 3 Tryz.hT rfl rfl rfl rfl rfl rfl rfl rfl ?_ | refine wl_loadBx 4 Tryz.hT rfl rfl rfl rfl rfl rfl rfl rfl ?_)
  (first | refine wl_loadBx 0 Tryz.hT rfl rfl rfl rfl rfl rfl rfl rfl ?_ | refine wl_loadBx 1 Tryz.hT rfl rfl rfl rfl rfl rfl rfl rfl ?_ | refine wl_loadBx 2 Tryz.hT rfl rfl rfl rfl rfl rfl rfl rfl ?_ | refine wl_loadBx 3 Tryz.hT rfl rfl rfl rfl rfl rfl rfl rfl ?_ | refine wl_loadBx 4 Tryz.hT rfl rfl rfl rfl rfl rfl rfl rfl ?_)
  refine wl_call1 rfl rfl rfl rfl rfl rfl (by kernel_rfl) (fun W hp => (fDist_gives f hok P.2.2.1 P.2.2.2 (sizX.mono (by decide)) (sizY.mono (by decide)) W (hv.hp hp) (ht.hp hp)).cast (by rw [hwhich, hdi, hab])) ?_
  iterate 5 refine wl_pure Tryz.hT rfl rfl rfl ?_
  refine wl_nil ?_
  repeat (first | refine zC ?_ | refine zD ?_ | refine zE ?_ | refine zF ?_ | refine zG ?_ | refine zH ?_ | refine zI ?_ | refine zJ ?_ | refine zK ?_ | refine zL ?_ | refine zM rfl ?_ | refine zN ?_ | refine zO ?_ | refine zP ?_ | refine zQ ?_ | refine zR rfl ?_ | refine zS rfl ?_)
  refine wc_seq ?_
  refine wc_lateY (X := Unit) [true, true, true, true, true, true, true, true, true, true, true] (fun _ => [(8, str (numS z)), (10, .int .i64 0), (12, .int .i64 0), (14, str (numS z)), (15, .int .i64 0), (16, str (numS (f.sp * nrm (a : Int) 4))), (17, .int .i64 0), (18, str (numS (f.sp * nrm (a : Int) 4))), (19, .int .i64 0)]) (fun _ => [smB b3 x, frB b7 f])
      0 [smB b3 x, frB b7 f, ⟨b11, 57, (plV P.1 P.2.1 f.base).cells.toList, true, none⟩, ⟨b13, 51, (ptV P.2.2.1 P.2.2.2).cells.toList, true, none⟩] Tryz.mixed (by kernel_rfl) ?_ ?_
  · refine wq_pure Tryz.hT rfl rfl rfl ?_
    (first | refine wq_loadBx 0 Tryz.hT rfl rfl rfl rfl rfl rfl rfl rfl ?_ | refine wq_loadBx 1 Tryz.hT rfl rfl rfl rfl rfl rfl rfl rfl ?_ | refine wq_loadBx 2 Tryz.hT rfl rfl rfl rfl rfl rfl rfl rfl ?_ | refine wq_loadBx 3 Tryz.hT rfl rfl rfl rfl rfl rfl rfl rfl ?_ | refine wq_loadBx 4 Tryz.hT rfl rfl rfl rfl rfl rfl rfl rfl ?_)
    refine wq_pure Tryz.hT rfl rfl rfl ?_
    refine wq_cvA Tryz.underlying5 Tryz.underlying3 rfl rfl rfl rfl ?_
    refine wq_upd 81 (.int .i64 (a : Nat)) rfl (congrArg (Value.int .i64) (w64_nat (by omega))) ?_
    refine wq_call1 rfl rfl rfl rfl rfl rfl (by kernel_rfl) (fun W hp => lnum_gives (a : Nat) 4 (by decide) (by omega) (by decide) W (ht.hp hp)) ?_
    refine wq_call1 rfl rfl rfl rfl rfl rfl (by kernel_rfl) (fun W hp => rmul_gives f.sp (nrm (a : Int) 4) (sz2 hsm.sp za (by decide)) W (hv.hp hp) (ht.hp hp)) ?_
    iterate 5 refine wq_pure Tryz.hT rfl rfl rfl ?_
    refine wq_wt ?_
    first | refine wt_done rfl (by ((repeat (first | refine Weak.same ?_ | refine Weak.off rfl ?_)); exact trivial)) ?_ | refine wt_doneF rfl (by kernel_rfl) ?_
    exact ne_late () ⟨rfl, rfl, rfl, rfl, rfl, rfl, rfl, rfl, rfl, trivial⟩ [0, 1] (by decide) rfl
  intro _
  repeat (first | refine zA ?_ | refine zB ?_ | refine zC ?_ | refine zD ?_ | refine zE ?_ | refine zF ?_ | refine zG ?_ | refine zH ?_ | refine zI ?_ | refine zJ ?_ | refine zK ?_ | refine zL ?_ | refine zM rfl ?_ | refine zN ?_ | refine zO ?_ | refine zP ?_ | refine zQ ?_ | refine zR rfl ?_ | refine zS rfl ?_ | refine zT Tryz.mixed (by kernel_rfl) ?_)
  iterate 8 refine wl_pure Tryz.hT rfl rfl rfl ?_
  (first | refine wl_pure Tryz.hT rfl rfl rfl ?_ | refine wl_skip rfl rfl ?_)
  (first | refine wl_pure Tryz.hT rfl rfl rfl ?_ | refine wl_skip rfl rfl ?_)
  refine wl_pure Tryz.hT rfl rfl rfl ?_
  refine wl_upd 96 (.bool true) rfl (congrArg Value.bool (strEqL _ _ rfl)) ?_
  iterate 2 refine wl_pure Tryz.hT rfl rfl rfl ?_
  (first | refine wl_pure Tryz.hT rfl rfl rfl ?_ | refine wl_skip rfl rfl ?_)
  (first | refine wl_pure Tryz.hT rfl rfl rfl ?_ | refine wl_skip rfl rfl ?_)
  refine wl_pure Tryz.hT rfl rfl rfl ?_
  refine wl_upd 101 (.bool true) rfl (congrArg Value.bool (strEqL _ _ rfl)) ?_
  iterate 2 refine wl_pure Tryz.hT rfl rfl rfl ?_
  refine wl_call1 rfl rfl rfl rfl rfl rfl (by kernel_rfl) (fun W hp => awakeF_gives W (hv.hp hp) (ht.hp hp)) ?_
  iterate 2 refine wl_pure Tryz.hT rfl rfl rfl ?_
  refine wl_nil ?_
  repeat (first | refine zA ?_ | refine zB ?_ | refine zC ?_ | refine zD ?_ | refine zE ?_ | refine zF ?_ | refine zG ?_ | refine zH ?_ | refine zI ?_ | refine zJ ?_ | refine zK ?_ | refine zL ?_ | refine zM rfl ?_ | refine zN ?_ | refine zO ?_ | refine zP ?_ | refine zQ ?_ | refine zR rfl ?_ | refine zS rfl ?_ | refine zT Tryz.mixed (by kernel_rfl) ?_)
  exact ne_ret1 Tryz.hT rfl (.tmp rfl) () rfl trivial fun W _ => NewBx.nil _ _
end Go.Proofs.YteaiopkopifijaaGreatDoor
