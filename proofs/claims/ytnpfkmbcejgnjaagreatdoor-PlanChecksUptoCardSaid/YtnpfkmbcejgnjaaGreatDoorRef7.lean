/-
  The reference: a whole number as a text; the area of a plan.
-/
import Derived.Test.YtnpfkmbcejgnjaaGreatDoorRef6
import Derived.Test.YtnpfkmbcejgnjaaGreatDoorAreaF
import Derived.Laws.IdiomStrings
import Derived.Laws.Concat
namespace Go.Proofs.YtnpfkmbcejgnjaaGreatDoor
open Go Go.RowKit Go.Am Go.Lib
set_option maxRecDepth 10000
-- BOXES 1
section
variable {r : Option Nat} {n : Nat} {P : Program} {N : Nat} {D : List Deferred} {ops : List Oper} {Q : Exit → Act → World → Prop} {o : Oper} {rest : List Oper} {env : Env} {A : World → Prop} {W0 : World} {bxs : List Bx}
/-- The bytes of a row as a string. -/
theorem wl_bytesStr (k : Nat) {d : Nat} {t e u : TypeId} {x : Operand} {B : Bx} {off cap len : Nat} (l : List UInt8) (hs : P.underlying t = some (.slice e)) (he : P.underlying e = some (.int .u8)) (hu : P.underlying u = some .string) (hg : guardE ops N env o = some true) (hd : o.dst = some d) (ho : o.op = .convert t u x)
    (hk : nth bxs k = some B) (hon : B.row = true) (hx : evO N env x = some (.slice (some ⟨B.b, off, none⟩) len cap)) (hlen : len = l.length) (hc : ∀ j (hj : j < l.length), B.cells[off + j]? = some (.int .u8 (l[j].toNat : Int)))
    (h : WL r n P N D ops Q rest ((d, str l) :: env) (Hp W0 bxs)) : WL r n P N D ops Q (o :: rest) env (Hp W0 bxs) := .mk fun a W ha hd' hp => by
  rw [nth_eq] at hk
  subst hlen
  refine wl_step hg ha (fun c e => by rw [ho] at e; cases e) ?_
  have h3 := (hp.at_ _ _ hk (Bx.row_on hon).1).1
  rw [(Bx.row_on hon).2] at h3
  have hr := run_convert_bytes_back (P := P) W t u e ⟨B.b, off, none⟩ cap l hs he hu (fun j hj => by rw [Addr.add_none, cell_block h3]; exact hc j hj)
  have : (execOp (ov env a).eval o).run P W = .ok (.value (str l)) W := by
    simp only [execOp, ho, evO_sound ha _ _ hx, Sem.run_bind, hr, Result.andThen_ok, Sem.run_pure]
  rw [this]
  simp only [Oper.uponIn, hd]
  exact h.out a W ha hd' hp
theorem wl_strAdd {d : Nat} {t u : TypeId} {x y : Operand} {a b : List UInt8} (hg : guardE ops N env o = some true) (hd : o.dst = some d) (ho : o.op = .binOp .add t x y u) (hx : evO N env x = some (str a)) (hy : evO N env y = some (str b)) (ha : a.length ≤ 8388608) (hb : b.length ≤ 8388608)
    (h : WL r n P N D ops Q rest ((d, str (a ++ b)) :: env) A) : WL r n P N D ops Q (o :: rest) env A :=
  wl_val hg hd (fun c e => by rw [ho] at e; cases e) (fun ρ W hρ _ => by
    have hs := run_string_add_lists (P := P) W a b (by omega) (by omega)
    simp [execOp, ho, hρ _ _ hx, hρ _ _ hy, eqGuard, binOp, hs]) h
theorem wl_cvI {d : Nat} {t u : TypeId} {x : Operand} {k k' kt : IntKind} {z : Int} (ht : P.underlying t = some (.int kt)) (hu : P.underlying u = some (.int k)) (hg : guardE ops N env o = some true) (hd : o.dst = some d) (ho : o.op = .convert t u x) (hx : evO N env x = some (.int k' z))
    (h : WL r n P N D ops Q rest ((d, .int k (k.wrap z)) :: env) A) : WL r n P N D ops Q (o :: rest) env A :=
  wl_val hg hd (fun c e => by rw [ho] at e; cases e) (fun ρ W hρ _ => by
    simp [execOp, ho, convert, hρ _ _ hx, run_underlying ht, run_underlying hu, Conv.intToInt]) h
end
theorem wrap8 {x : Int} (h1 : 0 ≤ x) (h2 : x < 256) : IntKind.u8.wrap x = x := by
  simp only [IntKind.wrap, IntKind.signed, IntKind.bits]
  simp
  omega
/-- Bytes as values of cells. -/
def byc (l : List UInt8) : List Value := l.map fun b => .int .u8 (b.toNat : Int)
def zer (k : Nat) : List Value := repL [.int .u8 0] k
theorem zer_len (k : Nat) : (zer k).length = k := by unfold zer; rw [repL_length]; simp
theorem zer_succ (k : Nat) : zer (k + 1) = zer k ++ [.int .u8 0] := by
  induction k with
  | zero => rfl
  | succ k ih =>
    have e : ∀ j, zer (j + 1) = [.int .u8 0] ++ zer j := fun j => rfl
    rw [e, ih, ← List.append_assoc, ← e, ih]
theorem byc_len (l : List UInt8) : (byc l).length = l.length := by simp [byc]
set_option maxHeartbeats 4000000 in
theorem decimal_gives (m : Nat) (hm : m < 100000000000000000) : Gives Tryz.prog 154 [.int .i64 (m : Nat)] (str (decDigits m)) := by
  intro W
  have hlen : (decDigits m).length ≤ 17 := dd_len 17 m (by omega) (by omega)
  refine calls_enter Tryz.func154 rfl rfl rfl ?_
  refine zA ?_
  refine zB ?_
  refine wl_pure Tryz.hT rfl rfl rfl ?_
  refine wl_nil ?_
  refine zE ?_
  refine zA ?_
  refine zB ?_
  refine wl_makeSlice Tryz.vec92 20 rfl rfl rfl rfl rfl rfl rfl (by decide) (by decide) ?_
  intro b
  refine wl_pure Tryz.hT rfl rfl rfl ?_
  refine wl_nil ?_
  refine zE ?_
  refine zA ?_
  refine zB ?_
  refine wl_pure Tryz.hT rfl rfl rfl ?_
  refine wl_pure Tryz.hT rfl rfl rfl ?_
  refine wl_pure Tryz.hT rfl rfl rfl ?_
  refine wl_nil ?_
  refine zE ?_
  refine zH ?_
  refine wc_loop (X := Nat × List UInt8) (fun x => [(0, .int .i64 (x.1 : Nat)), (3, .slice (some ⟨b, 0, none⟩) 20 20), (4, .int .i64 ((20 - x.2.length : Nat) : Int))]) (fun x => [⟨b, 5, zer (20 - x.2.length) ++ byc x.2, true, none⟩])
    (fun x => x.1 < 100000000000000000 ∧ decDigits m = decDigits x.1 ++ x.2) (fun x => x.1) (m, []) ⟨hm, by simp⟩ ⟨rfl, rfl, rfl, trivial⟩ [] rfl ?_
  rintro ⟨u, suf⟩ ⟨hu0, hd0⟩
  have hu : u < 100000000000000000 := hu0
  have hd : decDigits m = decDigits u ++ suf := hd0
  have hs : suf.length ≤ 16 := by
    have h1 := congrArg List.length hd
    rw [List.length_append] at h1
    have h2 : (decDigits u).length ≠ 0 := fun e => dd_ne u (List.length_eq_zero_iff.1 e)
    omega
  refine zH ?_
  refine zA ?_
  refine zB ?_
  refine wl_pure Tryz.hT rfl rfl rfl ?_
  refine wl_pure Tryz.hT rfl rfl rfl ?_
  refine wl_upd 9 (.int .i64 ((19 - suf.length : Nat) : Int)) rfl (congrArg (Value.int .i64) (show w64 (((20 - suf.length : Nat) : Int) - 1) = _ by rw [w64_id (by omega) (by omega)]; omega)) ?_
  refine wl_pure Tryz.hT rfl rfl rfl ?_
  refine wl_nil ?_
  have hb1 : ((u % 10 : Nat) : Int) < 10 := by omega
  refine zE ?_
  refine zA ?_
  refine zB ?_
  refine wl_pure Tryz.hT rfl rfl rfl ?_
  refine wl_pure Tryz.hT rfl rfl rfl ?_
  refine wl_pure Tryz.hT rfl rfl rfl ?_
  refine wl_rem rfl rfl rfl rfl rfl (by decide) ?_
  refine wl_upd 13 (.int .i64 ((u % 10 : Nat) : Int)) rfl (congrArg (Value.int .i64) (show Int.tmod (u : Nat) ((10 : Nat) : Int) = _ from (Int.ofNat_tmod _ _).symm)) ?_
  refine wl_pure Tryz.hT rfl rfl rfl ?_
  refine wl_upd 14 (.int .i64 ((48 + u % 10 : Nat) : Int)) rfl (congrArg (Value.int .i64) (show w64 (48 + ((u % 10 : Nat) : Int)) = _ by rw [w64_id (by omega) (by omega)]; omega)) ?_
  refine wl_cvI Tryz.underlying3 Tryz.underlying5 rfl rfl rfl rfl ?_
  have hbv : IntKind.u8.wrap ((48 + u % 10 : Nat) : Int) = ((UInt8.ofNat (48 + u % 10)).toNat : Int) := by
    rw [wrap8 (by omega) (by omega)]
    simp
    omega
  refine wl_upd 15 (.int .u8 ((UInt8.ofNat (48 + u % 10)).toNat : Int)) rfl (congrArg (Value.int .u8) hbv) ?_
  refine wl_indexAddr Tryz.hT rfl rfl rfl rfl rfl rfl rfl (by omega) (by omega) ?_
  have hz : zer (20 - suf.length) = zer (19 - suf.length) ++ [.int .u8 0] := by rw [← zer_succ]; congr 1; omega
  have hys : splice (zer (20 - suf.length) ++ byc suf) (0 + (19 - suf.length) * 1) [.int .u8 ((UInt8.ofNat (48 + u % 10)).toNat : Int)] = zer (20 - (UInt8.ofNat (48 + u % 10) :: suf).length) ++ byc (UInt8.ofNat (48 + u % 10) :: suf) := by
    rw [hz, List.length_cons, show 20 - (suf.length + 1) = 19 - suf.length by omega, show 0 + (19 - suf.length) * 1 = (zer (19 - suf.length)).length + 0 by rw [zer_len]; omega, List.append_assoc, splice_right]
    rfl
  refine wl_storeTo 0 _ Tryz.hT rfl rfl rfl rfl rfl rfl rfl rfl rfl rfl (by show 0 + (19 - suf.length) * 1 + 1 ≤ (zer (20 - suf.length) ++ byc suf).length; rw [List.length_append, zer_len]; omega) hys ?_
  refine wl_nil ?_
  refine zE ?_
  refine zA ?_
  refine zB ?_
  refine wl_pure Tryz.hT rfl rfl rfl ?_
  refine wl_quo rfl rfl rfl rfl rfl (by decide) ?_
  refine wl_upd 18 (.int .i64 ((u / 10 : Nat) : Int)) rfl (congrArg (Value.int .i64) (show w64 (Int.tdiv (u : Nat) ((10 : Nat) : Int)) = _ by rw [← Int.ofNat_tdiv, w64_id (by omega) (by omega)])) ?_
  refine wl_pure Tryz.hT rfl rfl rfl ?_
  refine wl_nil ?_
  refine zE ?_
  refine zA ?_
  refine zB ?_
  refine wl_pure Tryz.hT rfl rfl rfl ?_
  refine wl_pure Tryz.hT rfl rfl rfl ?_
  refine wl_nil ?_
  refine zE ?_
  generalize hc : UInt8.ofNat (48 + u % 10) = c at *
  refine wc_cond rfl (fun h => ?_) (fun h => ?_)
  · have h0 : u < 10 := by have h' : (((u / 10 : Nat) : Int) == 0) = true := h; rw [beq_iff_eq] at h'; omega
    have he : decDigits m = c :: suf := by rw [hd, decDigits_one h0, ← hc, Nat.mod_eq_of_lt h0]; rfl
    refine zA ?_
    refine zB ?_
    refine wl_pure Tryz.hT rfl rfl rfl ?_
    refine wl_pure Tryz.hT rfl rfl rfl ?_
    refine wl_slice_l (19 - suf.length) Tryz.hT rfl rfl rfl rfl rfl rfl rfl rfl (by omega) (by omega) ?_
    refine wl_upd 23 (.slice (some ⟨b, 19 - suf.length, none⟩) (c :: suf).length (20 - (19 - suf.length))) rfl (by
      rw [if_neg (by omega), List.length_cons, show 20 - (19 - suf.length) = suf.length + 1 by omega, show 0 + (19 - suf.length) * 1 = 19 - suf.length by omega]) ?_
    refine wl_bytesStr 0 (c :: suf) (e := 5) (by kernel_rfl) Tryz.underlying5 (by kernel_rfl) rfl rfl rfl rfl rfl rfl rfl (fun j hj => ?_) ?_
    · show (zer (20 - (c :: suf).length) ++ byc (c :: suf))[19 - suf.length + j]? = _
      rw [List.length_cons, show 20 - (suf.length + 1) = 19 - suf.length by omega, List.getElem?_append_right (by rw [zer_len]; omega), zer_len, Nat.add_sub_cancel_left]
      unfold byc
      rw [List.getElem?_map, List.getElem?_eq_getElem hj]; rfl
    refine wl_pure Tryz.hT rfl rfl rfl ?_
    refine wl_nil ?_
    refine zE ?_
    refine zO ?_
    refine zQ ?_
    refine zP ?_
    refine zQ ?_
    exact ne_ret1 Tryz.hT rfl (.tmp rfl) () (by rw [he]) trivial fun W _ => NewBx.nil _ _
  · have h0 : ¬ u < 10 := by have h' : (((u / 10 : Nat) : Int) == 0) = false := h; rw [beq_eq_false_iff_ne] at h'; omega
    refine zI ?_
    refine zN ?_
    refine ne_loop (u / 10, c :: suf) ⟨by show u / 10 < 100000000000000000; omega, ?_⟩ (by show u / 10 < u; omega) ⟨rfl, rfl, congrArg (fun z => some (Value.int .i64 z)) (by rw [List.length_cons, show 20 - (suf.length + 1) = 19 - suf.length by omega]), trivial⟩ [] rfl
    show decDigits m = decDigits (u / 10) ++ c :: suf
    rw [hd, decDigits, dif_neg h0, hc, List.append_assoc]; rfl
theorem gcdR_one (a : Int) : Gives Tryz.prog 153 [.int .i64 a, .int .i64 1] (.int .i64 1) := by
  intro W
  refine calls_enter Tryz.func153 rfl rfl rfl ?_
  refine zA ?_
  refine zB ?_
  refine wl_pure Tryz.hT rfl rfl rfl ?_
  refine wl_nil ?_
  refine zE ?_
  refine zA ?_
  refine zH ?_
  refine wc_loop (X := Bool) (fun x => [(0, .int .i64 (if x then a else 1)), (1, .int .i64 (if x then 1 else 0))]) (fun _ => []) (fun _ => True) (fun x => if x then 1 else 0) true trivial ⟨rfl, rfl, trivial⟩ [] rfl ?_
  intro x _
  cases x with
  | true =>
    refine zA ?_
    refine zA ?_
    refine zB ?_
    refine wl_pure Tryz.hT rfl rfl rfl ?_
    refine wl_pure Tryz.hT rfl rfl rfl ?_
    refine wl_nil ?_
    refine zE ?_
    refine zR rfl ?_
    refine zI ?_
    refine zE ?_
    refine zH ?_
    refine zT Tryz.mixed (by kernel_rfl) ?_
    refine wq_pure Tryz.hT rfl rfl rfl ?_
    refine wq_pure Tryz.hT rfl rfl rfl ?_
    refine wq_pure Tryz.hT rfl rfl rfl ?_
    refine wq_rem rfl rfl rfl rfl rfl (by decide) ?_
    refine wq_upd 10 (.int .i64 0) rfl (congrArg (Value.int .i64) (Int.tmod_one a)) ?_
    refine wq_pure Tryz.hT rfl rfl rfl ?_
    refine wq_pure Tryz.hT rfl rfl rfl ?_
    refine wq_nil ?_
    refine wl_nil ?_
    refine zN ?_
    exact ne_loop false trivial (by decide) ⟨rfl, rfl, trivial⟩ [] rfl
  | false =>
    refine zA ?_
    refine zA ?_
    refine zB ?_
    refine wl_pure Tryz.hT rfl rfl rfl ?_
    refine wl_pure Tryz.hT rfl rfl rfl ?_
    refine wl_nil ?_
    refine zE ?_
    refine zS rfl ?_
    refine zJ ?_
    refine zK ?_
    refine zK ?_
    refine zL ?_
    refine zE ?_
    refine zA ?_
    refine zB ?_
    refine wl_pure Tryz.hT rfl rfl rfl ?_
    refine wl_pure Tryz.hT rfl rfl rfl ?_
    refine wl_nil ?_
    refine zE ?_
    refine zO ?_
    exact ne_ret1 Tryz.hT rfl (.tmp rfl) () rfl trivial fun W _ => NewBx.nil _ _
set_option maxHeartbeats 4000000 in
theorem quick_gives (a : Int) (h0 : -100000000000000000 < a) (h1 : a < 100000000000000000) : Gives Tryz.prog 110 [.int .i64 a, .int .i64 1] (str (itoa a)) := by
  intro W
  refine calls_enter Tryz.func110 rfl rfl rfl ?_
  refine zA ?_
  refine zB ?_
  refine wl_pure Tryz.hT rfl rfl rfl ?_
  refine wl_nil ?_
  refine zE ?_
  refine zA ?_
  refine zB ?_
  refine wl_pure Tryz.hT rfl rfl rfl ?_
  refine wl_nil ?_
  refine zE ?_
  refine zA ?_
  refine zA ?_
  refine zB ?_
  refine wl_pure Tryz.hT rfl rfl rfl ?_
  refine wl_pure Tryz.hT rfl rfl rfl ?_
  refine wl_nil ?_
  refine zE ?_
  refine wc_cond rfl (fun h => ?_) (fun h => ?_)
  · have hn : a < 0 := by simpa using h
    have hlen := itoa_len a h0 h1
    refine zB ?_
    refine wl_pure Tryz.hT rfl rfl rfl ?_
    refine wl_pure Tryz.hT rfl rfl rfl ?_
    refine wl_upd 10 (.int .i64 ((a.natAbs : Nat) : Int)) rfl (congrArg (Value.int .i64) (show w64 (0 - a) = _ by rw [w64_id (by omega) (by omega)]; omega)) ?_
    refine wl_pure Tryz.hT rfl rfl rfl ?_
    refine wl_pure Tryz.hT rfl rfl rfl ?_
    refine wl_nil ?_
    refine zE ?_
    refine zA ?_
    refine zB ?_
    refine wl_pure Tryz.hT rfl rfl rfl ?_
    refine wl_pure Tryz.hT rfl rfl rfl ?_
    refine wl_call1 rfl rfl rfl rfl rfl rfl (by kernel_rfl) (fun W hp => gcdR_one _ W) ?_
    refine wl_pure Tryz.hT rfl rfl rfl ?_
    refine wl_nil ?_
    refine zE ?_
    refine zA ?_
    refine zB ?_
    refine wl_pure Tryz.hT rfl rfl rfl ?_
    refine wl_pure Tryz.hT rfl rfl rfl ?_
    refine wl_pure Tryz.hT rfl rfl rfl ?_
    refine wl_quo rfl rfl rfl rfl rfl (by decide) ?_
    refine wl_upd 17 (.int .i64 ((a.natAbs : Nat) : Int)) rfl (congrArg (Value.int .i64) (show w64 (Int.tdiv _ 1) = _ by rw [Int.tdiv_one, w64_id (by omega) (by omega)])) ?_
    refine wl_call1 rfl rfl rfl rfl rfl rfl (by kernel_rfl) (fun W hp => decimal_gives a.natAbs (by omega) W) ?_
    have e : itoa a = [45] ++ decDigits a.natAbs := by unfold itoa; rw [if_pos hn]; rfl
    have hdl : (decDigits a.natAbs).length ≤ 18 := by rw [e, List.length_append] at hlen; omega
    refine wl_strAdd (a := [45]) (b := decDigits a.natAbs) rfl rfl rfl rfl rfl (by decide) (by omega) ?_
    refine wl_upd 19 (str (itoa a)) rfl (by rw [e]) ?_
    refine wl_pure Tryz.hT rfl rfl rfl ?_
    refine wl_nil ?_
    refine zE ?_
    refine zA ?_
    refine zA ?_
    refine zB ?_
    refine wl_pure Tryz.hT rfl rfl rfl ?_
    refine wl_pure Tryz.hT rfl rfl rfl ?_
    refine wl_quo rfl rfl rfl rfl rfl (by decide) ?_
    refine wl_upd 22 (.int .i64 1) rfl (congrArg (Value.int .i64) (by decide)) ?_
    refine wl_pure Tryz.hT rfl rfl rfl ?_
    refine wl_nil ?_
    refine zE ?_
    refine zR rfl ?_
    refine zA ?_
    refine zB ?_
    refine wl_pure Tryz.hT rfl rfl rfl ?_
    refine wl_pure Tryz.hT rfl rfl rfl ?_
    refine wl_nil ?_
    refine zE ?_
    refine zO ?_
    refine zP ?_
    exact ne_ret1 Tryz.hT rfl (.tmp rfl) () rfl trivial fun W _ => NewBx.nil _ _
  · have hn : ¬ a < 0 := by simpa using h
    have hlen := itoa_len a h0 h1
    refine zI ?_
    refine zE ?_
    refine zA ?_
    refine zB ?_
    refine wl_pure Tryz.hT rfl rfl rfl ?_
    refine wl_pure Tryz.hT rfl rfl rfl ?_
    refine wl_call1 rfl rfl rfl rfl rfl rfl (by kernel_rfl) (fun W hp => gcdR_one _ W) ?_
    refine wl_pure Tryz.hT rfl rfl rfl ?_
    refine wl_nil ?_
    refine zE ?_
    refine zA ?_
    refine zB ?_
    refine wl_pure Tryz.hT rfl rfl rfl ?_
    refine wl_pure Tryz.hT rfl rfl rfl ?_
    refine wl_pure Tryz.hT rfl rfl rfl ?_
    refine wl_quo rfl rfl rfl rfl rfl (by decide) ?_
    refine wl_upd 17 (.int .i64 ((a.toNat : Nat) : Int)) rfl (congrArg (Value.int .i64) (show w64 (Int.tdiv _ 1) = _ by rw [Int.tdiv_one, w64_id (by omega) (by omega)]; omega)) ?_
    refine wl_call1 rfl rfl rfl rfl rfl rfl (by kernel_rfl) (fun W hp => decimal_gives a.toNat (by omega) W) ?_
    have e : itoa a = [] ++ decDigits a.toNat := by unfold itoa; rw [if_neg hn]; rfl
    have hdl : (decDigits a.toNat).length ≤ 18 := by rw [e, List.length_append] at hlen; omega
    refine wl_strAdd (a := []) (b := decDigits a.toNat) rfl rfl rfl rfl rfl (by decide) (by omega) ?_
    refine wl_upd 19 (str (itoa a)) rfl (by rw [e]) ?_
    refine wl_pure Tryz.hT rfl rfl rfl ?_
    refine wl_nil ?_
    refine zE ?_
    refine zA ?_
    refine zA ?_
    refine zB ?_
    refine wl_pure Tryz.hT rfl rfl rfl ?_
    refine wl_pure Tryz.hT rfl rfl rfl ?_
    refine wl_quo rfl rfl rfl rfl rfl (by decide) ?_
    refine wl_upd 22 (.int .i64 1) rfl (congrArg (Value.int .i64) (by decide)) ?_
    refine wl_pure Tryz.hT rfl rfl rfl ?_
    refine wl_nil ?_
    refine zE ?_
    refine zR rfl ?_
    refine zA ?_
    refine zB ?_
    refine wl_pure Tryz.hT rfl rfl rfl ?_
    refine wl_pure Tryz.hT rfl rfl rfl ?_
    refine wl_nil ?_
    refine zE ?_
    refine zO ?_
    refine zP ?_
    exact ne_ret1 Tryz.hT rfl (.tmp rfl) () rfl trivial fun W _ => NewBx.nil _ _
set_option maxHeartbeats 4000000 in
theorem ofR_gives (a : Int) (h0 : -100000000000000000 < a) (h1 : a < 100000000000000000) : Gives Tryz.prog 54 [.int .i64 a, .int .i64 1] (.tuple #[str (itoa a), .int .i64 0]) := by
  intro W
  refine calls_enter Tryz.func54 rfl rfl rfl ?_
  refine zA ?_
  refine zB ?_
  refine wl_pure Tryz.hT rfl rfl rfl ?_
  refine wl_pure Tryz.hT rfl rfl rfl ?_
  refine wl_nil ?_
  refine zE ?_
  refine zA ?_
  refine zA ?_
  refine zB ?_
  refine wl_pure Tryz.hT rfl rfl rfl ?_
  refine wl_pure Tryz.hT rfl rfl rfl ?_
  refine wl_nil ?_
  refine zE ?_
  refine zS rfl ?_
  refine zI ?_
  refine zE ?_
  refine zA ?_
  refine zA ?_
  refine zB ?_
  refine wl_pure Tryz.hT rfl rfl rfl ?_
  refine wl_pure Tryz.hT rfl rfl rfl ?_
  refine wl_upd 9 (.bool true) rfl (congrArg Value.bool (by show decide (a > -4611686018427387904) = true; rw [decide_eq_true_iff]; omega)) ?_
  refine wl_pure Tryz.hT rfl rfl rfl ?_
  refine wl_pure Tryz.hT rfl rfl rfl ?_
  refine wl_pure Tryz.hT rfl rfl rfl ?_
  refine wl_upd 12 (.bool true) rfl (congrArg Value.bool (by show decide (a < 4611686018427387904) = true; rw [decide_eq_true_iff]; omega)) ?_
  refine wl_pure Tryz.hT rfl rfl rfl ?_
  refine wl_pure Tryz.hT rfl rfl rfl ?_
  refine wl_pure Tryz.hT rfl rfl rfl ?_
  refine wl_pure Tryz.hT rfl rfl rfl ?_
  refine wl_pure Tryz.hT rfl rfl rfl ?_
  refine wl_pure Tryz.hT rfl rfl rfl ?_
  refine wl_pure Tryz.hT rfl rfl rfl ?_
  refine wl_pure Tryz.hT rfl rfl rfl ?_
  refine wl_pure Tryz.hT rfl rfl rfl ?_
  refine wl_nil ?_
  refine zE ?_
  refine zR rfl ?_
  refine zA ?_
  refine zB ?_
  refine wl_pure Tryz.hT rfl rfl rfl ?_
  refine wl_pure Tryz.hT rfl rfl rfl ?_
  refine wl_call1 rfl rfl rfl rfl rfl rfl (by kernel_rfl) (fun W hp => quick_gives a h0 h1 W) ?_
  refine wl_pure Tryz.hT rfl rfl rfl ?_
  refine wl_pure Tryz.hT rfl rfl rfl ?_
  refine wl_nil ?_
  refine zE ?_
  refine zO ?_
  refine zP ?_
  exact ne_ret2 Tryz.hT rfl (.tmp rfl) (.tmp rfl) () rfl trivial fun W _ => NewBx.nil _ _
set_option maxHeartbeats 4000000 in
theorem areaR_ok (W : World) (p : Option Addr) (cap : Nat) (rs : List (List Sd)) (hn : rs.length < 4611686018427387904) (hR : RingsP W p rs) (hc : chk rs = 0) :
    CallsR Tryz.prog 22 #[planV p rs.length cap] W (fun _ : Unit => .tuple #[str (itoa (areaN rs)), .int .i64 0]) (fun _ => True) (fun _ => []) := by
  obtain ⟨hne, hT, _⟩ := chk_ne hc
  obtain ⟨hg, hsh, _⟩ := chk_parts hc
  have hin : allR rs := fun l hl s hs => rgd_inR (hg l hl s hs)
  obtain ⟨ha, hb1, hb2⟩ := areaN_two hc
  refine calls_enter (args := [planV p rs.length cap]) Tryz.func22 rfl rfl rfl ?_
  refine zA ?_
  refine zB ?_
  (refine wl_box rfl rfl rfl rfl ?_; intro)
  refine wl_pure Tryz.hT rfl rfl rfl ?_
  refine wl_pure Tryz.hT rfl rfl rfl ?_
  refine wl_nil ?_
  rename_i b1
  refine zE ?_
  refine zA ?_
  refine zA ?_
  refine zB ?_
  refine wl_loadBx 0 Tryz.hT rfl rfl rfl rfl rfl rfl rfl rfl ?_
  refine wl_call1 rfl rfl rfl rfl rfl rfl (by kernel_rfl) (fun W hp => (refChk_gives W p cap rs hn (by omega) (hR.hp hp)).cast (by rw [hc])) ?_
  refine wl_pure Tryz.hT rfl rfl rfl ?_
  refine wl_nil ?_
  refine zE ?_
  refine zS rfl ?_
  refine zI ?_
  refine zE ?_
  refine zA ?_
  refine zB ?_
  refine wl_pure Tryz.hT rfl rfl rfl ?_
  refine wl_nil ?_
  refine zE ?_
  refine zA ?_
  refine zA ?_
  refine zB ?_
  refine wl_pure Tryz.hT rfl rfl rfl ?_
  refine wl_nil ?_
  refine zE ?_
  refine zH ?_
  refine wc_loop (X := Nat) (fun k => [(1, .pointer (some ⟨b1, 0, none⟩)), (4, .int .i64 (sumA rs k)), (5, .int .i64 (k : Nat))]) (fun _ => [⟨b1, 24, [slv p rs.length cap], true, none⟩])
    (fun k => k ≤ rs.length) (fun k => rs.length - k) 0 (Nat.zero_le _) ⟨rfl, rfl, rfl, trivial⟩ [] rfl ?_
  intro k hk
  refine zA ?_
  refine zA ?_
  refine zB ?_
  refine wl_pure Tryz.hT rfl rfl rfl ?_
  refine wl_pure Tryz.hT rfl rfl rfl ?_
  refine wl_loadBx 0 Tryz.hT rfl rfl rfl rfl rfl rfl rfl rfl ?_
  refine wl_pure Tryz.hT rfl rfl rfl ?_
  refine wl_pure Tryz.hT rfl rfl rfl ?_
  refine wl_nil ?_
  refine zE ?_
  refine wc_cond rfl (fun h => ?_) (fun h => ?_)
  · have hk : k < rs.length := by simp at h; omega
    clear h
    obtain ⟨b, off, rfl, hrow⟩ := hR.row hk
    obtain ⟨q, cap2, hq1, hq2⟩ := hrow k hk
    have hm : rg rs k ∈ rs := List.mem_of_getElem? (rg_get hk)
    have hlk := len_le_tot hm
    have et : twR (rg rs k) (rg rs k).length = areaUp (rg rs k) (rg rs k).length := by rw [(tw_eq (hin _ hm) _ (Nat.le_refl _) (by omega)).1, (areaUp_eq (hin _ hm) _ (Nat.le_refl _) (by omega)).1]
    refine zI ?_
    refine zE ?_
    refine zA ?_
    refine zH ?_
    refine zB ?_
    refine wl_pure Tryz.hT rfl rfl rfl ?_
    refine wl_pure Tryz.hT rfl rfl rfl ?_
    refine wl_loadBx 0 Tryz.hT rfl rfl rfl rfl rfl rfl rfl rfl ?_
    refine wl_pure Tryz.hT rfl rfl rfl ?_
    refine wl_indexAddr Tryz.hT rfl rfl rfl rfl rfl rfl rfl (by omega) (by omega) ?_
    refine wl_load rfl rfl rfl rfl (fun W hp => RowAt.load 0 Tryz.hT rfl ((fun W hp => hq1.hp hp) W hp) rfl) ?_
    refine wl_call1 rfl rfl rfl rfl rfl rfl (by kernel_rfl) (fun W hp => (twice_gives W q cap2 (rg rs k) (by omega) (hq2.hp hp)).cast (by rw [et])) ?_
    refine wl_pure Tryz.hT rfl rfl rfl ?_
    refine wl_pure Tryz.hT rfl rfl rfl ?_
    refine wl_nil ?_
    refine zN ?_
    refine zE ?_
    refine zB ?_
    refine wl_pure Tryz.hT rfl rfl rfl ?_
    refine wl_pure Tryz.hT rfl rfl rfl ?_
    refine wl_pure Tryz.hT rfl rfl rfl ?_
    refine wl_nil ?_
    exact ne_loop (k + 1) hk (by omega) ⟨rfl, rfl, congrArg (fun z => some (Value.int .i64 z)) (wrap_id (x := (k : Int) + 1) (by omega) (by omega)), trivial⟩ [] rfl
  · have e : k = rs.length := by simp at h; omega
    subst e
    refine zJ ?_
    refine zK ?_
    refine zK ?_
    refine zL ?_
    refine zE ?_
    refine zA ?_
    refine zB ?_
    refine wl_pure Tryz.hT rfl rfl rfl ?_
    refine wl_quo rfl rfl rfl rfl rfl (by decide) ?_
    refine wl_upd 28 (.int .i64 (areaN rs)) rfl (congrArg (Value.int .i64) (show w64 (Int.tdiv (sumA rs rs.length) 2) = _ by rw [ha, Int.mul_tdiv_cancel_left _ (by decide), w64_id (by omega) (by omega)])) ?_
    refine wl_call1 rfl rfl rfl rfl rfl rfl (by kernel_rfl) (fun W hp => ofR_gives (areaN rs) (by omega) (by omega) W) ?_
    refine wl_pure Tryz.hT rfl rfl rfl ?_
    refine wl_pure Tryz.hT rfl rfl rfl ?_
    refine wl_pure Tryz.hT rfl rfl rfl ?_
    refine wl_pure Tryz.hT rfl rfl rfl ?_
    refine wl_pure Tryz.hT rfl rfl rfl ?_
    refine wl_nil ?_
    refine zE ?_
    refine zA ?_
    refine zB ?_
    refine wl_pure Tryz.hT rfl rfl rfl ?_
    refine wl_pure Tryz.hT rfl rfl rfl ?_
    refine wl_pure Tryz.hT rfl rfl rfl ?_
    refine wl_nil ?_
    refine zE ?_
    refine zO ?_
    exact ne_ret2 Tryz.hT rfl (.tmp rfl) (.tmp rfl) () rfl trivial fun W _ => NewBx.nil _ _
theorem areaR_err (W : World) (p : Option Addr) (cap : Nat) (rs : List (List Sd)) (hn : rs.length < 4611686018427387904) (hT : tot rs < 1099511627776) (hR : RingsP W p rs) (hc : chk rs ≠ 0) :
    CallsR Tryz.prog 22 #[planV p rs.length cap] W (fun _ : Unit => .tuple #[str [], .int .i64 1]) (fun _ => True) (fun _ => []) := by
  refine calls_enter (args := [planV p rs.length cap]) Tryz.func22 rfl rfl rfl ?_
  refine zA ?_
  refine zB ?_
  (refine wl_box rfl rfl rfl rfl ?_; intro)
  refine wl_pure Tryz.hT rfl rfl rfl ?_
  refine wl_pure Tryz.hT rfl rfl rfl ?_
  refine wl_nil ?_
  refine zE ?_
  refine zA ?_
  refine zA ?_
  refine zB ?_
  refine wl_loadBx 0 Tryz.hT rfl rfl rfl rfl rfl rfl rfl rfl ?_
  refine wl_call1 rfl rfl rfl rfl rfl rfl (by kernel_rfl) (fun W hp => refChk_gives W p cap rs hn hT (hR.hp hp)) ?_
  refine wl_pure Tryz.hT rfl rfl rfl ?_
  refine wl_nil ?_
  refine zE ?_
  refine wc_cond rfl (fun h => ?_) (fun h => ?_)
  · refine zA ?_
    refine zB ?_
    refine wl_pure Tryz.hT rfl rfl rfl ?_
    refine wl_pure Tryz.hT rfl rfl rfl ?_
    refine wl_nil ?_
    refine zE ?_
    refine zO ?_
    refine zP ?_
    exact ne_ret2 Tryz.hT rfl (.tmp rfl) (.tmp rfl) () rfl trivial fun W _ => NewBx.nil _ _
  · exact absurd (by have h' : (chk rs != 0) = false := h; simpa using h') hc
end Go.Proofs.YtnpfkmbcejgnjaaGreatDoor
