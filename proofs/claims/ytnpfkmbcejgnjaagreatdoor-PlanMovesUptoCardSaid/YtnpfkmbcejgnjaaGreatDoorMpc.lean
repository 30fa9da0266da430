/-
  Lemmas that the theorem planMoves_upto_card needs (part 3 of 7).
-/
import Derived.Test.YtnpfkmbcejgnjaaGreatDoorMpb
import Derived.Lib.AppendIntMem
import Derived.Lib.ItoaLen
import Derived.Laws.Strings
import Derived.Lib.AppendZerosOnto
import Derived.Laws.AppendOwn
import Derived.Shelf.Lays2
import Derived.Shelf.Sort.Plain
import Derived.Shelf.Slices.In.SortNone
import Derived.Shelf.Slices.CompactI
import Derived.Lib.SlicesCompact
import Derived.Sort.Grow
namespace Go.Proofs.YtnpfkmbcejgnjaaGreatDoor
open Go Go.RowKit Go.Am Go.Lib
set_option maxRecDepth 10000
-- BOXES 3
abbrev str (l : List UInt8) : Value := .string ⟨l.toArray⟩
theorem CallsR.of1 {P : Program} {g : Nat} {args : Array Value} {W : World} {v : Value} (h : Calls P g args W fun e w' => e = .returned v ∧ Below W.heap.size W w') : CallsR P g args W (fun _ : Unit => v) (fun _ => True) (fun _ => []) :=
  ⟨h.mono fun _ _ ⟨he, hb⟩ => ⟨(), he, trivial, hb, NewBx.nil _ _⟩⟩
/-- The library's table of powers of ten is laid. -/
def TabP (W : World) : Prop := TabIs Tryz.prog W "internal/strconv.uint64pow10" .u64 pow10Tab
theorem TabP.hp {W0 W : World} {bxs : List Bx} (h : TabP W0) (hp : Hp W0 bxs W) : TabP W := tabBelow_of_tabIs h W hp.below
theorem below_grow (w : World) (k : Nat) (os : Array Obj) : Below w.heap.size w (Sort.grow (w.drewN k) os) := by
  refine ⟨rfl, rfl, rfl, by simp [Sort.grow, World.drewN], fun i hi => ?_⟩
  simp only [Sort.grow, World.drewN]
  rw [Array.getElem?_append_left hi]
theorem itoa_gives (n : Int) (h0 : -9223372036854775808 ≤ n) (h1 : n ≤ 9223372036854775807) (W : World) (ht : TabP W) : CallsR Tryz.prog 78 #[.int .i64 n] W (fun _ : Unit => str (itoa n)) (fun _ => True) (fun _ => []) := by
  refine CallsR.of1 ((Tryz.strconv_Itoa n h0 h1 W ht).mono ?_)
  rintro e w' ⟨rfl, k, os, rfl⟩
  exact ⟨rfl, below_grow W k os⟩
theorem atoi_gives (n : Int) (h0 : -4611686018427387904 < n) (h1 : n < 4611686018427387904) : Gives Tryz.prog 128 [str (itoa n)] (.tuple #[.int .i64 n, .nilIface]) := by
  intro W
  refine CallsR.of1 ((Tryz.strconv_Atoi_ok ⟨(itoa n).toArray⟩ ?_ n (by simpa using atoi_itoa n h0 h1) W).mono ?_)
  · have := itoa_length_le n (by omega) (by omega)
    show (itoa n).toArray.size ≤ _
    rw [List.size_toArray]; omega
  · rintro e w' ⟨rfl, rfl | ⟨t, rfl⟩⟩
    · exact ⟨rfl, Below.refl _ _⟩
    · exact ⟨rfl, bytesWorld_below _ _ _⟩
theorem prefix_gives (l p : List UInt8) : Gives Tryz.prog 140 [str l, str p] (.bool (hasPrefix l p)) := by
  intro W
  refine CallsR.of1 ((Tryz.strings_HasPrefix ⟨l.toArray⟩ ⟨p.toArray⟩ W).mono ?_)
  rintro e w' ⟨rfl, rfl⟩
  exact ⟨rfl, Below.refl _ _⟩
theorem trimPrefix_gives (l p : List UInt8) : Gives Tryz.prog 226 [str l, str p] (str (trimPrefix l p)) := by
  intro W
  refine CallsR.of1 ((Tryz.strings_TrimPrefix ⟨l.toArray⟩ ⟨p.toArray⟩ W).mono ?_)
  rintro e w' ⟨rfl, rfl⟩
  exact ⟨rfl, Below.refl _ _⟩
theorem trim_gives (l : List UInt8) (hl : l.length ≤ 9223372036854775807) : Gives Tryz.prog 252 [str l, str tenDigits] (str (trimS l tenDigits)) := by
  intro W
  refine CallsR.of1 ((Any.strings_Trim_laid Tryz.lays160 (by kernel_rfl) ⟨l.toArray⟩ ⟨tenDigits.toArray⟩ W ?_ (by decide) ?_).mono ?_)
  · show l.toArray.size ≤ _
    rw [List.size_toArray]; exact hl
  · intro j b hb
    have hm : b ∈ tenDigits := List.mem_of_getElem? hb
    have : ∀ x ∈ tenDigits, x.toNat < 128 := by decide
    exact this b hm
  · rintro e w' ⟨rfl, hb⟩
    exact ⟨rfl, hb⟩
section
variable {r : Option Nat} {n : Nat} {P : Program} {W0 : World} {N : Nat} {D : List Deferred} {ops : List Oper} {Q : Exit → Act → World → Prop} {o : Oper} {rest : List Oper} {env : Env} {A : World → Prop}
/-- A byte of a string. -/
theorem wl_byte {T : Tbl} {i : TI} {d : Nat} {t : TypeId} {x y : Operand} {k : IntKind} {l : List UInt8} {z : Int} (j : Nat) {b : UInt8} (hT : okB P T = true) (hg : guardE ops N env o = some true) (hd : o.dst = some d) (ho : o.op = .index t x y) (ht : find T t = some i) (hk : i.kind = 1)
    (hx : evO N env x = some (str l)) (hy : evO N env y = some (.int k z)) (hz : z = j) (hb : l[j]? = some b)
    (h : WL r n P N D ops Q rest ((d, .int .u8 b.toNat) :: env) A) : WL r n P N D ops Q (o :: rest) env A :=
  wl_val hg hd (fun c e => by rw [ho] at e; cases e) (fun ρ W hρ _ => by
    have hu := row_kind1 (find_row hT ht) hk
    subst hz
    have hb' : (⟨l.toArray⟩ : ByteArray)[j]? = some b := by
      obtain ⟨h1, h2⟩ := List.getElem?_eq_some_iff.1 hb
      have h3 : j < (⟨l.toArray⟩ : ByteArray).size := by show j < l.toArray.size; rw [List.size_toArray]; exact h1
      rw [getElem?_pos _ j h3]
      exact congrArg some h2
    simp [execOp, ho, Instr.index, hρ _ _ hx, hρ _ _ hy, asIntOf, run_underlying hu, hb']) h
end
theorem bytes_list (l : List UInt8) : (⟨l.toArray⟩ : ByteArray).toList = l := by rw [ByteArray.toList_eq]
theorem itoa_len (n : Int) (h0 : -100000000000000000 < n) (h1 : n < 100000000000000000) : (itoa n).length ≤ 18 := by
  unfold itoa
  split
  · have := dd_len 17 n.natAbs (by omega) (by omega)
    rw [List.length_cons]; omega
  · have := dd_len 17 n.toNat (by omega) (by omega)
    omega
theorem itoa_zero : itoa 0 = [48] := by unfold itoa; rw [if_neg (by omega)]; exact dd_zero
set_option maxHeartbeats 4000000 in
theorem intCheck_gives (n : Int) (h0 : -100000000000000000 < n) (h1 : n < 100000000000000000) : Gives Tryz.prog 215 [str (itoa n)] (.int .i64 0) := by
  intro W
  refine calls_enter Tryz.func215 rfl rfl rfl ?_
  refine zA ?_
  refine zB ?_
  refine wl_pure Tryz.hT rfl rfl rfl ?_
  refine wl_nil ?_
  refine zE ?_
  refine zA ?_
  refine zB ?_
  refine wl_pure Tryz.hT rfl rfl rfl ?_
  refine wl_call1 rfl rfl rfl rfl rfl rfl (by kernel_rfl) (fun W _ => trimPrefix_gives (itoa n) [45] W) ?_
  refine wl_upd 5 (str (decDigits n.natAbs)) rfl (by rw [trimPrefix_itoa]) ?_
  refine wl_pure Tryz.hT rfl rfl rfl ?_
  refine wl_nil ?_
  refine zE ?_
  iterate 2 refine zA ?_
  refine zB ?_
  iterate 2 refine wl_pure Tryz.hT rfl rfl rfl ?_
  obtain ⟨b, rest, hd, hb1, hb2⟩ := first_digit n.natAbs
  have hne : ((⟨(decDigits n.natAbs).toArray⟩ : ByteArray).toList == (⟨#[]⟩ : ByteArray).toList) = false := by
    rw [bytes_list, bytes_list []]; simp [dd_ne]
  refine wl_upd 7 (.bool false) rfl (congrArg Value.bool hne) ?_
  iterate 2 refine wl_pure Tryz.hT rfl rfl rfl ?_
  refine wl_byte 0 Tryz.hT rfl rfl rfl rfl rfl rfl rfl rfl (by rw [hd]; rfl) ?_
  refine wl_pure Tryz.hT rfl rfl rfl ?_
  have hlen := dd_len 17 n.natAbs (by omega) (by omega)
  have hlen63 : (decDigits n.natAbs).length ≤ 9223372036854775807 := by omega
  by_cases hn : n = 0
  · have hb : b.toNat = 48 := by
      rw [hn, show Int.natAbs 0 = 0 from rfl, dd_zero] at hd
      injection hd with hd _
      rw [← hd]; rfl
    refine wl_upd 11 (.bool true) rfl (congrArg Value.bool (by rw [hb]; rfl)) ?_
    iterate 3 refine wl_pure Tryz.hT rfl rfl rfl ?_
    refine wl_upd 14 (.bool false) rfl (congrArg Value.bool (by rw [hn, itoa_zero]; simp)) ?_
    iterate 4 refine wl_pure Tryz.hT rfl rfl rfl ?_
    refine wl_call1 rfl rfl rfl rfl rfl rfl (by kernel_rfl) (fun W _ => trim_gives (decDigits n.natAbs) hlen63 W) ?_
    refine wl_upd 19 (str []) rfl (by rw [trim_dd]) ?_
    refine wl_pure Tryz.hT rfl rfl rfl ?_
    refine wl_upd 20 (.bool false) rfl (congrArg Value.bool (by simp)) ?_
    refine wl_pure Tryz.hT rfl rfl rfl ?_
    refine wl_nil ?_
    refine zE ?_
    refine zS rfl ?_
    refine zI ?_
    refine zE ?_
    iterate 2 refine zA ?_
    refine zB ?_
    iterate 3 refine wl_pure Tryz.hT rfl rfl rfl ?_
    refine wl_nil ?_
    refine ne_then ?_
    refine wc_upd 24 (.bool false) rfl (congrArg Value.bool (by
      show decide (((⟨(decDigits n.natAbs).toArray⟩ : ByteArray).size : Int) > 300) = false
      have e : (⟨(decDigits n.natAbs).toArray⟩ : ByteArray).size = (decDigits n.natAbs).length := by show (decDigits n.natAbs).toArray.size = _; simp
      rw [e, decide_eq_false_iff_not]; omega)) ?_
    refine zS rfl ?_
    refine zI ?_
    refine zE ?_
    refine zA ?_
    refine zB ?_
    refine wl_pure Tryz.hT rfl rfl rfl ?_
    refine wl_nil ?_
    refine zE ?_
    refine zO ?_
    exact ne_ret1 Tryz.hT rfl (.tmp rfl) () rfl trivial fun W _ => NewBx.nil _ _
  · have hb : b.toNat ≠ 48 := by
      obtain ⟨b', r', e1, e2⟩ := dd_head n.natAbs (by omega)
      rw [hd] at e1
      injection e1 with e1 _
      rw [e1]; exact e2
    refine wl_upd 11 (.bool false) rfl (congrArg Value.bool (by rw [beq_eq_false_iff_ne]; omega)) ?_
    refine wl_pure Tryz.hT rfl rfl rfl ?_
    iterate 2 refine wl_skip rfl rfl ?_
    iterate 4 refine wl_pure Tryz.hT rfl rfl rfl ?_
    refine wl_call1 rfl rfl rfl rfl rfl rfl (by kernel_rfl) (fun W _ => trim_gives (decDigits n.natAbs) hlen63 W) ?_
    refine wl_upd 19 (str []) rfl (by rw [trim_dd]) ?_
    refine wl_pure Tryz.hT rfl rfl rfl ?_
    refine wl_upd 20 (.bool false) rfl (congrArg Value.bool (by simp)) ?_
    refine wl_pure Tryz.hT rfl rfl rfl ?_
    refine wl_nil ?_
    refine zE ?_
    refine zS rfl ?_
    refine zI ?_
    refine zE ?_
    iterate 2 refine zA ?_
    refine zB ?_
    iterate 3 refine wl_pure Tryz.hT rfl rfl rfl ?_
    refine wl_nil ?_
    refine ne_then ?_
    refine wc_upd 24 (.bool false) rfl (congrArg Value.bool (by
      show decide (((⟨(decDigits n.natAbs).toArray⟩ : ByteArray).size : Int) > 300) = false
      have e : (⟨(decDigits n.natAbs).toArray⟩ : ByteArray).size = (decDigits n.natAbs).length := by show (decDigits n.natAbs).toArray.size = _; simp
      rw [e, decide_eq_false_iff_not]; omega)) ?_
    refine zS rfl ?_
    refine zI ?_
    refine zE ?_
    refine zA ?_
    refine zB ?_
    refine wl_pure Tryz.hT rfl rfl rfl ?_
    refine wl_nil ?_
    refine zE ?_
    refine zO ?_
    exact ne_ret1 Tryz.hT rfl (.tmp rfl) () rfl trivial fun W _ => NewBx.nil _ _
theorem both_gives (a b : Int) (ha0 : -100000000000000000 < a) (ha1 : a < 100000000000000000) (hb0 : -100000000000000000 < b) (hb1 : b < 100000000000000000) : Gives Tryz.prog 173 [str (itoa a), str (itoa b)] (.int .i64 0) := by
  intro W
  refine calls_enter Tryz.func173 rfl rfl rfl ?_
  refine zA ?_
  refine zB ?_
  refine wl_pure Tryz.hT rfl rfl rfl ?_
  refine wl_nil ?_
  refine zE ?_
  iterate 2 refine zA ?_
  refine zB ?_
  refine wl_pure Tryz.hT rfl rfl rfl ?_
  refine wl_call1 rfl rfl rfl rfl rfl rfl (by kernel_rfl) (fun W _ => intCheck_gives a ha0 ha1 W) ?_
  refine wl_pure Tryz.hT rfl rfl rfl ?_
  refine wl_nil ?_
  refine zE ?_
  refine zA ?_
  refine zB ?_
  iterate 2 refine wl_pure Tryz.hT rfl rfl rfl ?_
  refine wl_nil ?_
  refine zE ?_
  refine zS rfl ?_
  refine zI ?_
  refine zE ?_
  refine zA ?_
  refine zB ?_
  refine wl_pure Tryz.hT rfl rfl rfl ?_
  refine wl_call1 rfl rfl rfl rfl rfl rfl (by kernel_rfl) (fun W _ => intCheck_gives b hb0 hb1 W) ?_
  refine wl_pure Tryz.hT rfl rfl rfl ?_
  refine wl_nil ?_
  refine zE ?_
  refine zO ?_
  exact ne_ret1 Tryz.hT rfl (.tmp rfl) () rfl trivial fun W _ => NewBx.nil _ _
theorem nil_eq_run (W : World) : (binOp .eql 96 .nilIface .nilIface).run Tryz.prog W = .ok (.bool true) W := by
  simp only [binOp, Op.equal, Op.maxDepth]
  rw [show (10000 : Nat) = 9999 + 1 from rfl]
  unfold Op.equalIn
  simp only [Sem.run_bind, run_underlying Tryz.underlying96, Result.andThen_ok, Sem.run_pure]
section
variable {N : Nat} {D : List Deferred} {ops : List Oper} {o : Oper} {rest : List Oper} {env : Env} {A A2 : World → Prop} {R : Act → World → Prop}
theorem wq_nilErr {d : Nat} {u : TypeId} {x : Operand} {c : Value} (hg : guardE ops N env o = some true) (hd : o.dst = some d) (ho : o.op = .binOp .eql 96 x (.const c) u) (hc : c = .nilIface)
    (hx : evO N env x = some .nilIface) (h : WQ Tryz.prog N D ops A2 R rest ((d, .bool true) :: env) A) : WQ Tryz.prog N D ops A2 R (o :: rest) env A :=
  wq_val hg hd (fun c e => by rw [ho] at e; cases e) (fun ρ W hρ _ => by
    subst hc
    have hgd : (eqGuard .eql 96 x (.const .nilIface) .nilIface .nilIface).run Tryz.prog W = .ok () W := by rw [eqGuard_nil_constR]; rfl
    have h2 : ρ (.const .nilIface) = .nilIface := hρ _ _ rfl
    simp only [execOp, ho, hρ _ _ hx, h2, Sem.run_bind, hgd, nil_eq_run W, Result.andThen_ok, Sem.run_pure]) h
end
theorem str_size (l : List UInt8) : (⟨l.toArray⟩ : ByteArray).size = l.length := by show l.toArray.size = _; simp
theorem small_gives (a b : Int) (ha0 : -100000000000000000 < a) (ha1 : a < 100000000000000000) (hb0 : -100000000000000000 < b) (hb1 : b < 100000000000000000) : Gives Tryz.prog 174 [str (itoa a), str (itoa b), .int .i64 18] (.tuple #[.int .i64 a, .int .i64 b, .bool true]) := by
  intro W
  have hla := itoa_len a ha0 ha1
  have hlb := itoa_len b hb0 hb1
  refine calls_enter Tryz.func174 rfl rfl rfl ?_
  refine zA ?_
  refine zB ?_
  iterate 3 refine wl_pure Tryz.hT rfl rfl rfl ?_
  refine wl_nil ?_
  refine zE ?_
  iterate 2 refine zA ?_
  refine zB ?_
  iterate 4 refine wl_pure Tryz.hT rfl rfl rfl ?_
  refine wl_upd 16 (.bool false) rfl (congrArg Value.bool (by show decide (((⟨(itoa a).toArray⟩ : ByteArray).size : Int) > 18) = false; rw [str_size, decide_eq_false_iff_not]; omega)) ?_
  iterate 5 refine wl_pure Tryz.hT rfl rfl rfl ?_
  refine wl_upd 21 (.bool false) rfl (congrArg Value.bool (by show decide (((⟨(itoa b).toArray⟩ : ByteArray).size : Int) > 18) = false; rw [str_size, decide_eq_false_iff_not]; omega)) ?_
  refine wl_pure Tryz.hT rfl rfl rfl ?_
  refine wl_nil ?_
  refine zE ?_
  refine zS rfl ?_
  refine zI ?_
  refine zE ?_
  refine zA ?_
  refine zB ?_
  refine wl_pure Tryz.hT rfl rfl rfl ?_
  refine wl_call1 rfl rfl rfl rfl rfl rfl (by kernel_rfl) (fun W _ => atoi_gives a (by omega) (by omega) W) ?_
  iterate 5 refine wl_pure Tryz.hT rfl rfl rfl ?_
  refine wl_nil ?_
  refine zE ?_
  refine zA ?_
  refine zB ?_
  refine wl_pure Tryz.hT rfl rfl rfl ?_
  refine wl_call1 rfl rfl rfl rfl rfl rfl (by kernel_rfl) (fun W _ => atoi_gives b (by omega) (by omega) W) ?_
  iterate 5 refine wl_pure Tryz.hT rfl rfl rfl ?_
  refine wl_nil ?_
  refine zE ?_
  refine zA ?_
  refine zT Tryz.mixed (by kernel_rfl) ?_
  iterate 3 refine wq_pure Tryz.hT rfl rfl rfl ?_
  refine wq_nilErr rfl rfl rfl rfl rfl ?_
  iterate 2 refine wq_pure Tryz.hT rfl rfl rfl ?_
  refine wq_nilErr rfl rfl rfl rfl rfl ?_
  iterate 4 refine wq_pure Tryz.hT rfl rfl rfl ?_
  refine wq_nil ?_
  refine wl_nil ?_
  refine zE ?_
  refine zO ?_
  exact ne_ret3 Tryz.hT rfl (.tmp rfl) (.tmp rfl) (.tmp rfl) () rfl trivial fun W _ => NewBx.nil _ _
theorem itoa_small {n : Nat} (h : n < 10) : itoa (n : Nat) = [UInt8.ofNat (48 + n)] := by
  unfold itoa
  rw [if_neg (by omega)]
  exact decDigits_one h
theorem itoa_inj {a b : Int} (h1 : -4611686018427387904 < a) (h2 : a < 4611686018427387904) (h3 : -4611686018427387904 < b) (h4 : b < 4611686018427387904) (h : itoa a = itoa b) : a = b := by
  have e1 := atoi_itoa a h1 h2
  rw [h, atoi_itoa b h3 h4] at e1
  injection e1 with e1
  exact e1.symm
set_option maxHeartbeats 4000000 in
theorem gcd2_gives (k : Int) (h0 : -10000000000000000 < k) (h1 : k < 10000000000000000) (W : World) (ht : TabP W) : CallsR Tryz.prog 142 #[str (itoa (2 * k)), str (itoa 2)] W (fun _ : Unit => .tuple #[str (itoa 2), .int .i64 0]) (fun _ => True) (fun _ => []) := by
  refine calls_enter (args := [str (itoa (2 * k)), str (itoa 2)]) Tryz.func142 rfl rfl rfl ?_
  refine zA ?_
  refine zB ?_
  iterate 2 refine wl_pure Tryz.hT rfl rfl rfl ?_
  refine wl_nil ?_
  refine zE ?_
  iterate 2 refine zA ?_
  refine zB ?_
  iterate 2 refine wl_pure Tryz.hT rfl rfl rfl ?_
  refine wl_call1 rfl rfl rfl rfl rfl rfl (by kernel_rfl) (fun W _ => both_gives (2 * k) 2 (by omega) (by omega) (by omega) (by omega) W) ?_
  refine wl_pure Tryz.hT rfl rfl rfl ?_
  refine wl_nil ?_
  refine zE ?_
  refine zA ?_
  refine zB ?_
  iterate 2 refine wl_pure Tryz.hT rfl rfl rfl ?_
  refine wl_nil ?_
  refine zE ?_
  refine zS rfl ?_
  refine zI ?_
  refine zE ?_
  iterate 2 refine zA ?_
  refine zB ?_
  iterate 2 refine wl_pure Tryz.hT rfl rfl rfl ?_
  refine wl_call1 rfl rfl rfl rfl rfl rfl (by kernel_rfl) (fun W _ => small_gives (2 * k) 2 (by omega) (by omega) (by omega) (by omega) W) ?_
  iterate 7 refine wl_pure Tryz.hT rfl rfl rfl ?_
  refine wl_nil ?_
  refine zE ?_
  refine zA ?_
  refine zB ?_
  refine wl_pure Tryz.hT rfl rfl rfl ?_
  refine wl_nil ?_
  refine zE ?_
  refine zR rfl ?_
  refine zA ?_
  refine zH ?_
  refine wc_loop (X := Bool) (fun x => [(4, str []), (7, .int .i64 (if x then 2 * k else 2)), (8, .int .i64 (if x then 2 else 0))]) (fun _ => []) (fun _ => True) (fun x => if x then 1 else 0) true trivial ⟨rfl, rfl, rfl, trivial⟩ [] rfl ?_
  intro x _
  cases x with
  | true =>
    iterate 2 refine zA ?_
    refine zB ?_
    iterate 2 refine wl_pure Tryz.hT rfl rfl rfl ?_
    refine wl_nil ?_
    refine zE ?_
    refine zR rfl ?_
    refine zI ?_
    refine zE ?_
    refine zH ?_
    refine zT Tryz.mixed (by kernel_rfl) ?_
    iterate 3 refine wq_pure Tryz.hT rfl rfl rfl ?_
    refine wq_rem rfl rfl rfl rfl rfl (by decide) ?_
    have e : (2 * k).tmod 2 = 0 := by rw [Int.mul_comm]; exact Int.mul_tmod_left ..
    refine wq_upd 33 (.int .i64 0) rfl (congrArg (Value.int .i64) e) ?_
    iterate 2 refine wq_pure Tryz.hT rfl rfl rfl ?_
    refine wq_nil ?_
    refine wl_nil ?_
    refine zN ?_
    exact ne_loop false trivial (by decide) ⟨rfl, rfl, rfl, trivial⟩ [] rfl
  | false =>
    iterate 2 refine zA ?_
    refine zB ?_
    iterate 2 refine wl_pure Tryz.hT rfl rfl rfl ?_
    refine wl_nil ?_
    refine zE ?_
    refine zS rfl ?_
    refine zJ ?_
    iterate 2 refine zK ?_
    refine zL ?_
    refine zE ?_
    refine zA ?_
    refine zB ?_
    iterate 4 refine wl_pure Tryz.hT rfl rfl rfl ?_
    refine wl_call1 rfl rfl rfl rfl rfl rfl (by kernel_rfl) (fun W hp => itoa_gives 2 (by decide) (by decide) W (ht.hp hp)) ?_
    iterate 2 refine wl_pure Tryz.hT rfl rfl rfl ?_
    refine wl_nil ?_
    refine zE ?_
    refine zO ?_
    refine zP ?_
    exact ne_ret2 Tryz.hT rfl (.tmp rfl) (.tmp rfl) () rfl trivial fun W _ => NewBx.nil _ _
set_option maxHeartbeats 4000000 in
theorem divide_gives (q b : Int) (hb : b ≠ 0) (hq0 : -10000000000000000 < q) (hq1 : q < 10000000000000000) (hb0 : -100000000000000000 < b) (hb1 : b < 100000000000000000) (ha0 : -100000000000000000 < b * q) (ha1 : b * q < 100000000000000000) (W : World) (ht : TabP W) :
    CallsR Tryz.prog 143 #[str (itoa (b * q)), str (itoa b)] W (fun _ : Unit => .tuple #[str (itoa q), str (itoa 0), .int .i64 0]) (fun _ => True) (fun _ => []) := by
  refine calls_enter (args := [str (itoa (b * q)), str (itoa b)]) Tryz.func143 rfl rfl rfl ?_
  refine zA ?_
  refine zB ?_
  iterate 3 refine wl_pure Tryz.hT rfl rfl rfl ?_
  refine wl_nil ?_
  refine zE ?_
  iterate 2 refine zA ?_
  refine zB ?_
  iterate 2 refine wl_pure Tryz.hT rfl rfl rfl ?_
  refine wl_call1 rfl rfl rfl rfl rfl rfl (by kernel_rfl) (fun W _ => both_gives (b * q) b ha0 ha1 hb0 hb1 W) ?_
  refine wl_pure Tryz.hT rfl rfl rfl ?_
  refine wl_nil ?_
  refine zE ?_
  refine zA ?_
  refine zB ?_
  iterate 2 refine wl_pure Tryz.hT rfl rfl rfl ?_
  refine wl_nil ?_
  refine zE ?_
  refine zS rfl ?_
  refine zI ?_
  refine zE ?_
  iterate 2 refine zA ?_
  refine zB ?_
  iterate 2 refine wl_pure Tryz.hT rfl rfl rfl ?_
  refine wl_upd 28 (.bool false) rfl (congrArg Value.bool (by
    rw [bytes_list, bytes_list [48], beq_eq_false_iff_ne]
    intro e
    exact hb (itoa_inj (by omega) (by omega) (by omega) (by omega) (e.trans itoa_zero.symm)))) ?_
  refine wl_nil ?_
  refine zE ?_
  refine zS rfl ?_
  refine zI ?_
  refine zE ?_
  iterate 2 refine zA ?_
  refine zB ?_
  iterate 2 refine wl_pure Tryz.hT rfl rfl rfl ?_
  refine wl_call1 rfl rfl rfl rfl rfl rfl (by kernel_rfl) (fun W _ => small_gives (b * q) b ha0 ha1 hb0 hb1 W) ?_
  iterate 7 refine wl_pure Tryz.hT rfl rfl rfl ?_
  refine wl_nil ?_
  refine zE ?_
  refine zA ?_
  refine zB ?_
  refine wl_pure Tryz.hT rfl rfl rfl ?_
  refine wl_nil ?_
  refine zE ?_
  refine zR rfl ?_
  refine zA ?_
  refine zT Tryz.mixed (by kernel_rfl) ?_
  iterate 2 refine wq_pure Tryz.hT rfl rfl rfl ?_
  refine wq_quo rfl rfl rfl rfl rfl hb ?_
  refine wq_upd 39 (.int .i64 q) rfl (congrArg (Value.int .i64) (by rw [Int.mul_tdiv_cancel_left _ hb]; exact wrap_id (by omega) (by omega))) ?_
  iterate 2 refine wq_pure Tryz.hT rfl rfl rfl ?_
  refine wq_rem rfl rfl rfl rfl rfl hb ?_
  refine wq_upd 42 (.int .i64 0) rfl (congrArg (Value.int .i64) (by rw [Int.mul_comm]; exact Int.mul_tmod_left ..)) ?_
  iterate 2 refine wq_pure Tryz.hT rfl rfl rfl ?_
  refine wq_nil ?_
  refine wl_nil ?_
  refine zE ?_
  iterate 2 refine zA ?_
  refine zB ?_
  iterate 3 refine wl_pure Tryz.hT rfl rfl rfl ?_
  iterate 5 refine wl_skip rfl rfl ?_
  refine wl_pure Tryz.hT rfl rfl rfl ?_
  refine wl_nil ?_
  refine zE ?_
  refine zS rfl ?_
  refine zI ?_
  refine zE ?_
  refine zA ?_
  refine zB ?_
  refine wl_pure Tryz.hT rfl rfl rfl ?_
  refine wl_call1 rfl rfl rfl rfl rfl rfl (by kernel_rfl) (fun W hp => itoa_gives q (by omega) (by omega) W (ht.hp hp)) ?_
  refine wl_pure Tryz.hT rfl rfl rfl ?_
  refine wl_call1 rfl rfl rfl rfl rfl rfl (by kernel_rfl) (fun W hp => itoa_gives 0 (by decide) (by decide) W (ht.hp hp)) ?_
  iterate 3 refine wl_pure Tryz.hT rfl rfl rfl ?_
  refine wl_nil ?_
  refine zE ?_
  refine zO ?_
  refine zP ?_
  exact ne_ret3 Tryz.hT rfl (.tmp rfl) (.tmp rfl) (.tmp rfl) () rfl trivial fun W _ => NewBx.nil _ _
theorem itoa_one : itoa 1 = [49] := itoa_small (n := 1) (by decide)
theorem itoa_two : itoa 2 = [50] := itoa_small (n := 2) (by decide)
set_option maxHeartbeats 4000000 in
theorem number2_gives (k : Int) (h0 : -10000000000000000 < k) (h1 : k < 10000000000000000) (W : World) (ht : TabP W) : CallsR Tryz.prog 86 #[str (itoa (2 * k)), str (itoa 2)] W (fun _ : Unit => .tuple #[str (itoa k), .int .i64 0]) (fun _ => True) (fun _ => []) := by
  refine calls_enter (args := [str (itoa (2 * k)), str (itoa 2)]) Tryz.func86 rfl rfl rfl ?_
  refine zA ?_
  refine zB ?_
  iterate 2 refine wl_pure Tryz.hT rfl rfl rfl ?_
  refine wl_nil ?_
  refine zE ?_
  iterate 2 refine zA ?_
  refine zB ?_
  refine wl_pure Tryz.hT rfl rfl rfl ?_
  refine wl_call1 rfl rfl rfl rfl rfl rfl (by kernel_rfl) (fun W _ => prefix_gives (itoa 2) [45] W) ?_
  refine wl_upd 9 (.bool false) rfl (congrArg Value.bool (by rw [itoa_two]; decide)) ?_
  refine wl_nil ?_
  refine zE ?_
  refine zS rfl ?_
  refine zI ?_
  refine zE ?_
  refine zA ?_
  refine zB ?_
  iterate 2 refine wl_pure Tryz.hT rfl rfl rfl ?_
  refine wl_call1 rfl rfl rfl rfl rfl rfl (by kernel_rfl) (fun W hp => gcd2_gives k h0 h1 W (ht.hp hp)) ?_
  iterate 5 refine wl_pure Tryz.hT rfl rfl rfl ?_
  refine wl_nil ?_
  refine zE ?_
  iterate 2 refine zA ?_
  refine zB ?_
  iterate 2 refine wl_pure Tryz.hT rfl rfl rfl ?_
  refine wl_nil ?_
  refine zE ?_
  refine zS rfl ?_
  refine zI ?_
  refine zE ?_
  iterate 2 refine zA ?_
  refine zB ?_
  iterate 2 refine wl_pure Tryz.hT rfl rfl rfl ?_
  refine wl_upd 24 (.bool true) rfl (congrArg Value.bool (by rw [bytes_list, bytes_list [49], itoa_two]; decide)) ?_
  refine wl_nil ?_
  refine zE ?_
  refine zR rfl ?_
  refine zA ?_
  refine zB ?_
  iterate 2 refine wl_pure Tryz.hT rfl rfl rfl ?_
  refine wl_call1 rfl rfl rfl rfl rfl rfl (by kernel_rfl) (fun W hp => divide_gives k 2 (by decide) (by omega) (by omega) (by decide) (by decide) (by omega) (by omega) W (ht.hp hp)) ?_
  iterate 5 refine wl_pure Tryz.hT rfl rfl rfl ?_
  refine wl_nil ?_
  refine zE ?_
  refine zB ?_
  iterate 2 refine wl_pure Tryz.hT rfl rfl rfl ?_
  refine wl_call1 rfl rfl rfl rfl rfl rfl (by kernel_rfl) (fun W hp => (divide_gives 1 2 (by decide) (by decide) (by decide) (by decide) (by decide) (by decide) (by decide) W (ht.hp hp))) ?_
  iterate 5 refine wl_pure Tryz.hT rfl rfl rfl ?_
  refine wl_nil ?_
  refine zE ?_
  iterate 2 refine zA ?_
  refine zB ?_
  iterate 2 refine wl_pure Tryz.hT rfl rfl rfl ?_
  refine wl_upd 40 (.bool true) rfl (congrArg Value.bool (by rw [bytes_list, bytes_list [49], itoa_one]; decide)) ?_
  refine wl_nil ?_
  refine zE ?_
  refine zR rfl ?_
  refine zA ?_
  refine zB ?_
  iterate 3 refine wl_pure Tryz.hT rfl rfl rfl ?_
  refine wl_nil ?_
  refine zE ?_
  refine zO ?_
  refine zP ?_
  exact ne_ret2 Tryz.hT rfl (.tmp rfl) (.tmp rfl) () rfl trivial fun W _ => NewBx.nil _ _
theorem of2_gives (k : Int) (h0 : -10000000000000000 < k) (h1 : k < 10000000000000000) (W : World) (ht : TabP W) : CallsR Tryz.prog 37 #[.int .i64 (2 * k), .int .i64 2] W (fun _ : Unit => .tuple #[str (itoa k), .int .i64 0]) (fun _ => True) (fun _ => []) := by
  refine calls_enter (args := [.int .i64 (2 * k), .int .i64 2]) Tryz.func37 rfl rfl rfl ?_
  refine zA ?_
  refine zB ?_
  iterate 2 refine wl_pure Tryz.hT rfl rfl rfl ?_
  refine wl_nil ?_
  refine zE ?_
  iterate 2 refine zA ?_
  refine zB ?_
  refine wl_pure Tryz.hT rfl rfl rfl ?_
  refine wl_nil ?_
  refine zE ?_
  refine zH ?_
  refine zA ?_
  refine zB ?_
  iterate 2 refine wl_pure Tryz.hT rfl rfl rfl ?_
  refine wl_nil ?_
  refine zE ?_
  refine zS rfl ?_
  refine zA ?_
  refine zB ?_
  iterate 2 refine wl_pure Tryz.hT rfl rfl rfl ?_
  refine wl_nil ?_
  refine zE ?_
  refine zS rfl ?_
  refine zI ?_
  refine zN ?_
  refine zE ?_
  refine zA ?_
  refine zB ?_
  refine wl_pure Tryz.hT rfl rfl rfl ?_
  refine wl_call1 rfl rfl rfl rfl rfl rfl (by kernel_rfl) (fun W hp => itoa_gives (2 * k) (by omega) (by omega) W (ht.hp hp)) ?_
  refine wl_pure Tryz.hT rfl rfl rfl ?_
  refine wl_call1 rfl rfl rfl rfl rfl rfl (by kernel_rfl) (fun W hp => itoa_gives 2 (by decide) (by decide) W (ht.hp hp)) ?_
  refine wl_call1 rfl rfl rfl rfl rfl rfl (by kernel_rfl) (fun W hp => number2_gives k h0 h1 W (ht.hp hp)) ?_
  iterate 4 refine wl_pure Tryz.hT rfl rfl rfl ?_
  refine wl_nil ?_
  refine zE ?_
  refine zO ?_
  exact ne_ret2 Tryz.hT rfl (.tmp rfl) (.tmp rfl) () rfl trivial fun W _ => NewBx.nil _ _
end Go.Proofs.YtnpfkmbcejgnjaaGreatDoor
namespace Go.Proofs.YtnpfkmbcejgnjaaGreatDoor
open Go Go.RowKit Go.Am Go.Lib
set_option maxRecDepth 10000
-- BOXES 3
/-- The area of a plan. -/
def areaN (rs : List (List Sd)) : Int := sumA rs rs.length / 2
theorem areaN_two {rs : List (List Sd)} (h : chk rs = 0) : sumA rs rs.length = 2 * areaN rs ∧ -10000000000000000 < areaN rs ∧ areaN rs < 10000000000000000 := by
  obtain ⟨m, e, b1, b2⟩ := sumA_even h rs.length (Nat.le_refl _)
  rw [List.take_length] at b1 b2
  have := (chk_ne h).2.1
  unfold areaN
  omega
set_option maxHeartbeats 4000000 in
theorem areaF_ok (W : World) (p : Option Addr) (cap : Nat) (rs : List (List Sd)) (hn : rs.length < 4611686018427387904) (hR : RingsP W p rs) (hc : chk rs = 0) (ht : TabP W) :
    CallsR Tryz.prog 21 #[planV p rs.length cap] W (fun _ : Unit => .tuple #[str (itoa (areaN rs)), .int .i64 0]) (fun _ => True) (fun _ => []) := by
  obtain ⟨hne, hT, _⟩ := chk_ne hc
  have hl : ∀ l ∈ rs, l.length < 4611686018427387904 := fun l h => by have := len_le_tot h; omega
  refine calls_enter (args := [planV p rs.length cap]) Tryz.func21 rfl rfl rfl ?_
  refine zA ?_
  refine zB ?_
  (refine wl_box rfl rfl rfl rfl ?_; intro)
  iterate 2 refine wl_pure Tryz.hT rfl rfl rfl ?_
  refine wl_nil ?_
  rename_i b1
  refine zE ?_
  iterate 2 refine zA ?_
  refine zB ?_
  refine wl_loadBx 0 Tryz.hT rfl rfl rfl rfl rfl rfl rfl rfl ?_
  refine wl_call1 rfl rfl rfl rfl rfl rfl (by kernel_rfl) (fun W hp => (check_gives W p cap rs hn (by omega) (hR.hp hp)).cast (by rw [hc])) ?_
  refine wl_pure Tryz.hT rfl rfl rfl ?_
  refine wl_nil ?_
  refine zE ?_
  refine zS rfl ?_
  refine zI ?_
  refine zE ?_
  refine zA ?_
  refine zB ?_
  refine wl_pure Tryz.hT rfl rfl rfl ?_
  refine wl_nil ?_
  refine zE ?_
  iterate 2 refine zA ?_
  refine zB ?_
  refine wl_pure Tryz.hT rfl rfl rfl ?_
  refine wl_loadBx 0 Tryz.hT rfl rfl rfl rfl rfl rfl rfl rfl ?_
  iterate 2 refine wl_pure Tryz.hT rfl rfl rfl ?_
  refine wl_nil ?_
  refine zE ?_
  refine zH ?_
  refine wc_loop (X := Nat) (fun k => [(4, .int .i64 (sumA rs k)), (11, slv p rs.length cap), (12, .int .i64 (rs.length : Nat)), (13, .int .i64 (k : Nat))]) (fun _ => [⟨b1, 24, [slv p rs.length cap], true, none⟩])
    (fun k => k ≤ rs.length) (fun k => rs.length - k) 0 (Nat.zero_le _) ⟨rfl, rfl, rfl, rfl, trivial⟩ [] rfl ?_
  intro k hk
  refine zA ?_
  refine zB ?_
  refine wl_pure Tryz.hT rfl rfl rfl ?_
  refine wl_nil ?_
  refine zE ?_
  refine zA ?_
  refine wc_cond rfl (fun h => ?_) (fun h => ?_)
  · have hk : k < rs.length := by simp at h; omega
    clear h
    obtain ⟨b, off, rfl, hrow⟩ := hR.row hk
    obtain ⟨q, cap2, hq1, hq2⟩ := hrow k hk
    have hlk := hl _ (List.mem_of_getElem? (rg_get hk))
    refine zI ?_
    refine zE ?_
    refine zA ?_
    refine zH ?_
    refine zA ?_
    refine zB ?_
    refine wl_indexAddr Tryz.hT rfl rfl rfl rfl rfl rfl rfl (by omega) (by omega) ?_
    refine wl_load rfl rfl rfl rfl (fun W hp => RowAt.load 0 Tryz.hT rfl ((fun W hp => hq1.hp hp) W hp) rfl) ?_
    refine wl_pure Tryz.hT rfl rfl rfl ?_
    refine wl_nil ?_
    refine zE ?_
    refine zB ?_
    iterate 2 refine wl_pure Tryz.hT rfl rfl rfl ?_
    refine wl_call1 rfl rfl rfl rfl rfl rfl (by kernel_rfl) (fun W hp => area_gives W q cap2 (rg rs k) hlk (hq2.hp hp)) ?_
    iterate 2 refine wl_pure Tryz.hT rfl rfl rfl ?_
    refine wl_nil ?_
    refine zN ?_
    refine zE ?_
    refine zB ?_
    iterate 2 refine wl_pure Tryz.hT rfl rfl rfl ?_
    refine wl_nil ?_
    exact ne_loop (k + 1) hk (by omega) ⟨rfl, rfl, rfl, congrArg (fun z => some (Value.int .i64 z)) (wrap_id (x := (k : Int) + 1) (by omega) (by omega)), trivial⟩ [] rfl
  · have e : k = rs.length := by simp at h; omega
    subst e
    obtain ⟨e2, h1, h2⟩ := areaN_two hc
    refine zJ ?_
    iterate 2 refine zK ?_
    refine zL ?_
    refine zE ?_
    refine zA ?_
    refine zB ?_
    refine wl_pure Tryz.hT rfl rfl rfl ?_
    refine wl_upd 22 (.int .i64 (2 * areaN rs)) rfl (congrArg (Value.int .i64) e2) ?_
    refine wl_call1 rfl rfl rfl rfl rfl rfl (by kernel_rfl) (fun W hp => of2_gives (areaN rs) h1 h2 W (ht.hp hp)) ?_
    iterate 4 refine wl_pure Tryz.hT rfl rfl rfl ?_
    refine wl_nil ?_
    refine zE ?_
    refine zO ?_
    exact ne_ret2 Tryz.hT rfl (.tmp rfl) (.tmp rfl) () rfl trivial fun W _ => NewBx.nil _ _
end Go.Proofs.YtnpfkmbcejgnjaaGreatDoor
namespace Go.Proofs.YtnpfkmbcejgnjaaGreatDoor
open Go Go.RowKit Go.Am
set_option maxRecDepth 10000
-- BOXES 8
theorem clone_gives (W : World) (p : Option Addr) (cap : Nat) (l : List Sd) (hn : l.length < 1099511627776) (hR : RingP W p l) (hne : l ≠ []) :
    CallsR Tryz.prog 30 #[slv p l.length cap] W (fun V : Vec => V.val l.length) (fun V => V.OK 7 l.length (cellsOf l) ∧ V.p ≠ none) (fun V => [V.bx 42 (cellsOf l)]) := by
  obtain ⟨b, off, rfl, hRl⟩ : ∃ b off, p = some ⟨b, off, none⟩ ∧ RingAt W b off l := by
    rcases hR with h | h
    · exact absurd h hne
    · exact h
  refine calls_enter (args := [slv (some ⟨b, off, none⟩) l.length cap]) Tryz.func30 rfl rfl rfl ?_
  refine zA ?_
  refine zB ?_
  refine wl_pure Tryz.hT rfl rfl rfl ?_
  refine wl_nil ?_
  refine zE ?_
  iterate 2 refine zA ?_
  refine zB ?_
  refine wl_pure Tryz.hT rfl rfl rfl ?_
  refine wl_nilEq Tryz.hT rfl rfl rfl rfl rfl rfl rfl ?_
  refine zC ?_
  refine zE ?_
  refine zS rfl ?_
  refine zI ?_
  refine zE ?_
  refine zA ?_
  refine zB ?_
  refine wl_buildEmpty Tryz.hT rfl rfl rfl rfl rfl ?_
  intro g
  refine wl_pure Tryz.hT rfl rfl rfl ?_
  refine wl_append (len := 0) (V := ⟨some g, 0, []⟩) (xs := []) 0 Tryz.vec27 rfl rfl rfl rfl rfl rfl rfl rfl rfl ⟨rfl, (fun h => by cases h), fun _ => ⟨Nat.le_refl _, Nat.zero_le _, rfl⟩⟩ (cellsOf_length l) (fun W hp j u hj => ?_) (cellsOf_one _) (by simp only [maxLen]; omega) (by omega) ?_
  · have hR' := RingP.hp (.inr ⟨b, off, rfl, hRl⟩) hp
    rcases hR' with h | ⟨b3, off3, e, hR'⟩
    · exact absurd h hne
    · cases e
      rw [Addr.add_none]
      exact hR'.cells j u hj
  intro V hV hp0
  refine wl_pure Tryz.hT rfl rfl rfl ?_
  refine wl_nil ?_
  refine zE ?_
  refine zO ?_
  have e0 : 0 + l.length = l.length := Nat.zero_add _
  rw [e0, List.nil_append] at hV
  exact ne_ret1 Tryz.hT rfl (.tmp rfl) V (by rw [e0]) ⟨hV, fun h => hne (List.length_eq_zero_iff.1 (hp0 h))⟩ fun W hp => NewBx.of_hp1 hp 0 rfl
/-- Rings that a function has made: each with its own block. -/
abbrev Made := List (Vec × List Sd)
def rowCells (mk : Made) : List Value := mk.map fun p => p.1.val p.2.length
def mkB (mk : Made) : Bx := grpB (mk.reverse.flatMap fun p => (p.1.bx 42 (cellsOf p.2)).blk)
structure MadeOK (mk : Made) (rs : List (List Sd)) : Prop where
  eq : mk.map (·.2) = rs
  ok : ∀ p ∈ mk, p.1.OK 7 p.2.length (cellsOf p.2)
theorem mkB_snoc (mk : Made) (U : Vec) (l : List Sd) : (mkB (mk ++ [(U, l)])).blk = (U.bx 42 (cellsOf l)).blk ++ (mkB mk).blk := by
  show ((mk ++ [(U, l)]).reverse.flatMap _) = _ ++ (mk.reverse.flatMap _)
  rw [List.reverse_append]
  simp
theorem MadeOK.snoc {mk : Made} {rs : List (List Sd)} {U : Vec} {l : List Sd} (h : MadeOK mk rs) (hU : U.OK 7 l.length (cellsOf l)) : MadeOK (mk ++ [(U, l)]) (rs ++ [l]) := by
  refine ⟨by rw [List.map_append, h.eq]; rfl, fun p hp => ?_⟩
  rcases List.mem_append.1 hp with hp | hp
  · exact h.ok p hp
  · obtain rfl := List.mem_singleton.1 hp; exact hU
theorem rowCells_snoc (mk : Made) (U : Vec) (l : List Sd) : rowCells (mk ++ [(U, l)]) = rowCells mk ++ [U.val l.length] := by simp [rowCells]
/-- What lies in a group's block is known. -/
theorem RowAt.of_grp {W0 W : World} {bxs : List Bx} (hp : Hp W0 bxs W) (k : Nat) {l : List (Nat × Obj)} (hk : nth bxs k = some (grpB l)) {g : Nat} {c : List Value} {ty : TypeId} (hm : (g, Obj.cells c.toArray ty (0, 0)) ∈ l) : RowAt W g 0 c := by
  rw [nth_eq] at hk
  exact RowAt.of_block (hp.own.cell k _ hk _ hm).1
theorem vec_val_slv {V : Vec} {size n : Nat} {xs : List Value} (h : V.OK size n xs) : ∃ q cq, V.val n = slv q n cq := ⟨_, _, Vec.val_eq h⟩
/-- A plan that a function has made lies in memory. -/
theorem made_rings {mk : Made} {rs : List (List Sd)} (h : MadeOK mk rs) {V : Vec} (hV : V.OK 1 rs.length (rowCells mk)) :
    ∃ p cap, V.val rs.length = slv p rs.length cap ∧ ∀ {W0 W : World} {bxs : List Bx}, Hp W0 bxs W → ∀ k i, nth bxs k = some (V.bx 27 (rowCells mk)) → nth bxs i = some (mkB mk) → RingsP W p rs := by
  obtain ⟨p, cap, junk⟩ := V
  cases p with
  | none =>
    have h0 := hV.nil rfl
    refine ⟨none, 0, by rw [h0]; rfl, fun _ _ _ _ _ => .inl (List.length_eq_zero_iff.1 h0)⟩
  | some g =>
    refine ⟨some ⟨g, 0, none⟩, cap, rfl, fun {W0 W bxs} hp k i hk hi => .inr ⟨g, 0, rfl, ⟨fun j l hj => ?_⟩⟩⟩
    have hjm : j < mk.length := by
      have := (List.getElem?_eq_some_iff.1 hj).1
      rw [← h.eq, List.length_map] at this; exact this
    have hl : (mk[j]).2 = l := by
      rw [← h.eq, List.getElem?_map, List.getElem?_eq_getElem hjm] at hj
      simpa using hj
    have hok := h.ok _ (List.getElem_mem hjm)
    obtain ⟨q, cq, e1⟩ := vec_val_slv hok
    refine ⟨q, cq, ?_, ?_⟩
    · have hrow := RowAt.of_bx hp k hk rfl
      refine ⟨hrow.lt, fun m u hu => ?_⟩
      have hm : m = 0 ∧ u = slv q l.length cq := by
        cases m with
        | zero => simp at hu; exact ⟨rfl, hu.symm⟩
        | succ m => simp at hu
      obtain ⟨rfl, rfl⟩ := hm
      have := hrow.get j (slv q l.length cq) (by
        show (rowCells mk ++ junk)[j]? = _
        rw [List.getElem?_append_left (by rw [rowCells, List.length_map]; exact hjm), rowCells, List.getElem?_map, List.getElem?_eq_getElem hjm]
        simp only [Option.map_some]
        rw [e1, hl])
      rw [Nat.mul_one, Nat.zero_add, Nat.add_zero]
      rw [Nat.zero_add] at this
      exact this
    · by_cases hl0 : l = []
      · exact .inl hl0
      · obtain ⟨⟨⟨p2, cap2, junk2⟩, l2⟩, hmk⟩ : ∃ x : Vec × List Sd, mk[j] = x := ⟨_, rfl⟩
        have e2 : l2 = l := by rw [hmk] at hl; exact hl
        subst e2
        rw [hmk] at hok e1
        cases p2 with
        | none => exact absurd (List.length_eq_zero_iff.1 (hok.nil rfl)) hl0
        | some g2 =>
          have e3 : q = some ⟨g2, 0, none⟩ := by
            have e1' : Value.slice (some ⟨g2, 0, none⟩) l2.length cap2 = slv q l2.length cq := e1
            injection e1' with e1' _ _
            exact e1'.symm
          refine .inr ⟨g2, 0, e3, ?_⟩
          have hin : (g2, Obj.cells (cellsOf l2 ++ junk2).toArray 42 (0, 0)) ∈ mk.reverse.flatMap fun p => (p.1.bx 42 (cellsOf p.2)).blk := by
            refine List.mem_flatMap.2 ⟨mk[j], List.mem_reverse.2 (List.getElem_mem hjm), ?_⟩
            rw [hmk]
            exact List.mem_cons_self ..
          have hrow := RowAt.of_grp hp i hi hin
          refine RingAt.of_cells hrow.lt fun m u hu => hrow.get m u ?_
          rw [List.getElem?_append_left (List.getElem?_eq_some_iff.1 hu).1]
          exact hu
theorem set_cells {s' : Sd} {f : Nat} {v : Value} {junk : List Value} (hf : f < 7) : ∀ (l : List Sd) (j : Nat), j < l.length → s'.cells = splice (sd l j).cells f [v] → splice (cellsOf l ++ junk) (j * 7 + f) [v] = cellsOf (l.set j s') ++ junk
  | [], j, h, _ => by simp at h
  | s :: l, 0, _, hs => by
    have hs : s'.cells = splice s.cells f [v] := hs
    show splice (s.cells ++ cellsOf l ++ junk) (0 * 7 + f) [v] = s'.cells ++ cellsOf l ++ junk
    rw [hs, Nat.zero_mul, Nat.zero_add]
    match f, hf with
    | 0, _ => rfl
    | 1, _ => rfl
    | 2, _ => rfl
    | 3, _ => rfl
    | 4, _ => rfl
    | 5, _ => rfl
    | 6, _ => rfl
  | s :: l, j + 1, h, hs => by
    have ih := set_cells (s' := s') (v := v) (junk := junk) hf l j (by simpa using h) (by rw [hs]; simp [sd])
    show splice (s.cells ++ cellsOf l ++ junk) ((j + 1) * 7 + f) [v] = s.cells ++ cellsOf (l.set j s') ++ junk
    rw [List.append_assoc, List.append_assoc, ← ih, show (j + 1) * 7 + f = s.cells.length + (j * 7 + f) by show _ = 7 + _; omega, splice_right]
def mvS (f : Int → Int → Int × Int) (s : Sd) : Sd := { s with x := (f s.x s.y).1, y := (f s.x s.y).2 }
def mvR (f : Int → Int → Int × Int) (rs : List (List Sd)) : List (List Sd) := rs.map (·.map (mvS f))
theorem half_len (f : Sd → Sd) (l : List Sd) (j : Nat) : ((l.take j).map f ++ l.drop j).length = l.length := by
  rw [List.length_append, List.length_map, List.length_take, List.length_drop]; omega
theorem half_sd (f : Sd → Sd) (l : List Sd) {j : Nat} (hj : j < l.length) : sd ((l.take j).map f ++ l.drop j) j = sd l j := by
  have hlen : ((l.take j).map f).length = j := by rw [List.length_map, List.length_take]; omega
  have : ((l.take j).map f ++ l.drop j)[j]? = some (sd l j) := by
    rw [List.getElem?_append_right (by omega), hlen, Nat.sub_self, List.getElem?_drop, Nat.add_zero, sd_get hj]
  show List.getD _ _ _ = _
  rw [List.getD_eq_getElem?_getD, this]
  rfl
theorem half_set (f : Sd → Sd) (l : List Sd) {j : Nat} (hj : j < l.length) : ((l.take j).map f ++ l.drop j).set j (f (sd l j)) = (l.take (j + 1)).map f ++ l.drop (j + 1) := by
  have hlen : ((l.take j).map f).length = j := by rw [List.length_map, List.length_take]; omega
  have hd : l.drop j = sd l j :: l.drop (j + 1) := by rw [List.drop_eq_getElem_cons hj]; simp [sd, hj]
  rw [List.set_append_right _ _ (by omega), hlen, Nat.sub_self, hd, List.set_cons_zero, List.take_add_one, sd_get hj]
  simp
set_option maxHeartbeats 8000000 in
theorem moved_gives (g : Nat) (hE : entersB Tryz.prog g = true) (capt : List Value) (f : Int → Int → Int × Int) (W : World) (p : Option Addr) (cap : Nat) (rs : List (List Sd)) (hn : rs.length < 1099511627776) (hT : tot rs < 1099511627776) (hR : RingsP W p rs) (hne : ∀ l ∈ rs, l ≠ [])
    (hf : ∀ W', Below W.heap.size W W' → ∀ x y, CallsR Tryz.prog g ([spot x y] ++ capt).toArray W' (fun _ : Unit => spot (f x y).1 (f x y).2) (fun _ => True) (fun _ => [])) :
    CallsR Tryz.prog 70 #[planV p rs.length cap, .func (.func g) #[] capt.toArray] W (fun x : Vec × Made => .agg #[x.1.val rs.length]) (fun x => MadeOK x.2 (mvR f rs) ∧ x.1.OK 1 rs.length (rowCells x.2)) (fun x => [x.1.bx 27 (rowCells x.2), mkB x.2]) := by
  have hl : ∀ l ∈ rs, l.length < 1099511627776 := fun l h => by have := len_le_tot h; omega
  refine calls_enter (args := [planV p rs.length cap, .func (.func g) #[] capt.toArray]) Tryz.func70 rfl rfl rfl ?_
  refine zA ?_
  refine zB ?_
  (refine wl_box rfl rfl rfl rfl ?_; intro)
  (refine wl_allocZ Tryz.hZ rfl rfl rfl rfl ?_; intro)
  refine wl_nil ?_
  rename_i b2 b4
  refine zE ?_
  refine zA ?_
  refine zB ?_
  (refine wl_allocZ Tryz.hZ rfl rfl rfl rfl ?_; intro)
  refine wl_nil ?_
  rename_i b5
  refine zE ?_
  iterate 2 refine zA ?_
  refine zB ?_
  refine wl_pure Tryz.hT rfl rfl rfl ?_
  refine wl_loadBx 0 Tryz.hT rfl rfl rfl rfl rfl rfl rfl rfl ?_
  iterate 2 refine wl_pure Tryz.hT rfl rfl rfl ?_
  refine wl_nil ?_
  refine zE ?_
  refine zH ?_
  refine wc_newGone ?_
  refine wc_newGrp ?_
  refine wc_loop (X := Nat × Vec × Made) (fun x => [(1, .func (.func g) #[] capt.toArray), (4, .pointer (some ⟨b4, 0, none⟩)), (5, .pointer (some ⟨b5, 0, none⟩)), (12, slv p rs.length cap), (13, .int .i64 (rs.length : Nat)), (14, .int .i64 (x.1 : Nat))])
    (fun x => [⟨b2, 24, [slv p rs.length cap], true, none⟩, ⟨b4, 24, [slv none 0 0], true, none⟩, ⟨b5, 24, [x.2.1.val x.1], true, none⟩, x.2.1.bx 27 (rowCells x.2.2), mkB x.2.2])
    (fun x => x.1 ≤ rs.length ∧ MadeOK x.2.2 (mvR f (rs.take x.1)) ∧ x.2.1.OK 1 x.1 (rowCells x.2.2)) (fun x => rs.length - x.1) (0, Vec.empty, []) ⟨Nat.zero_le _, ⟨rfl, fun p hp => by cases hp⟩, Vec.OK.empty 1⟩ ⟨rfl, rfl, rfl, rfl, rfl, rfl, trivial⟩ [] rfl ?_
  rintro ⟨k, V, mk⟩ ⟨hk0, hmk0, hV0⟩
  have hk : k ≤ rs.length := hk0
  have hmk : MadeOK mk (mvR f (rs.take k)) := hmk0
  have hV : V.OK 1 k (rowCells mk) := hV0
  clear hk0 hmk0 hV0
  refine zA ?_
  refine zB ?_
  refine wl_pure Tryz.hT rfl rfl rfl ?_
  refine wl_nil ?_
  refine zE ?_
  refine zA ?_
  refine wc_cond rfl (fun h => ?_) (fun h => ?_)
  rotate_left
  · have e : k = rs.length := by simp at h; omega
    subst e
    have ev := Vec.val_eq hV
    refine zJ ?_
    iterate 2 refine zK ?_
    refine zL ?_
    refine zE ?_
    refine zA ?_
    refine zB ?_
    refine wl_loadBx 2 Tryz.hT rfl rfl rfl rfl rfl rfl rfl rfl ?_
    refine wl_upd 52 (.agg #[.slice (V.p.map fun g => ⟨g, 0, none⟩) rs.length (match V.p with | none => 0 | some _ => V.cap)]) rfl (congrArg (fun v => Value.agg #[v]) ev) ?_
    refine wl_storeBx 1 Tryz.hT rfl rfl rfl rfl rfl rfl rfl rfl rfl rfl rfl ?_
    refine wl_nil ?_
    refine zE ?_
    refine zO ?_
    rw [List.take_length] at hmk
    exact ne_ret1 Tryz.hT rfl (.cell 1 rfl rfl rfl rfl rfl) (V, mk) (congrArg (fun v => Value.agg #[v]) ev.symm) ⟨hmk, hV⟩ fun W hp => (hp.pick [3, 4] (by decide) rfl).own
  have hk : k < rs.length := by simp at h; omega
  clear h
  obtain ⟨b, off, rfl, hrow⟩ := hR.row hk
  obtain ⟨q, cap2, hq1, hq2⟩ := hrow k hk
  have hlk := hl _ (List.mem_of_getElem? (rg_get hk))
  have hnek := hne _ (List.mem_of_getElem? (rg_get hk))
  refine zI ?_
  refine zE ?_
  refine zA ?_
  refine zH ?_
  refine zA ?_
  refine zB ?_
  refine wl_indexAddr Tryz.hT rfl rfl rfl rfl rfl rfl rfl (by omega) (by omega) ?_
  refine wl_load rfl rfl rfl rfl (fun W hp => RowAt.load 0 Tryz.hT rfl ((fun W hp => hq1.hp hp) W hp) rfl) ?_
  refine wl_pure Tryz.hT rfl rfl rfl ?_
  refine wl_nil ?_
  refine zE ?_
  refine zA ?_
  refine zB ?_
  refine wl_pure Tryz.hT rfl rfl rfl ?_
  refine wl_call (X := Vec) rfl rfl rfl rfl rfl rfl (by kernel_rfl) (fun W hp => clone_gives W q cap2 (rg rs k) hlk (hq2.hp hp) hnek) ?_
  rintro U0 ⟨hU0, hUp⟩
  obtain ⟨pU, capU, junk⟩ := U0
  cases pU with
  | none => exact absurd rfl hUp
  | some gU =>
  obtain ⟨hc0, _, hc2⟩ := hU0.cap (by simp)
  have hc0 : (rg rs k).length ≤ capU := hc0
  have hc2 : (cellsOf (rg rs k)).length + junk.length = capU * 7 := hc2
  refine wl_pure Tryz.hT rfl rfl rfl ?_
  refine wl_nil ?_
  refine zE ?_
  iterate 2 refine zA ?_
  refine zB ?_
  iterate 3 refine wl_pure Tryz.hT rfl rfl rfl ?_
  refine wl_nil ?_
  refine zE ?_
  refine zH ?_
  refine wc_loop (X := Nat) (fun j => [(1, .func (.func g) #[] capt.toArray), (4, .pointer (some ⟨b4, 0, none⟩)), (5, .pointer (some ⟨b5, 0, none⟩)), (12, slv (some ⟨b, off, none⟩) rs.length cap), (13, .int .i64 (rs.length : Nat)), (14, .int .i64 (k : Nat)), (8, slv (some ⟨gU, 0, none⟩) (rg rs k).length capU), (21, .int .i64 ((rg rs k).length : Nat)), (22, .int .i64 (j : Nat))])
    (fun j => [⟨b2, 24, [slv (some ⟨b, off, none⟩) rs.length cap], true, none⟩, ⟨b4, 24, [slv none 0 0], true, none⟩, ⟨b5, 24, [V.val k], true, none⟩, V.bx 27 (rowCells mk), mkB mk, (⟨some gU, capU, junk⟩ : Vec).bx 42 (cellsOf (((rg rs k).take j).map (mvS f) ++ (rg rs k).drop j))])
    (fun j => j ≤ (rg rs k).length) (fun j => (rg rs k).length - j) 0 (Nat.zero_le _) ⟨rfl, rfl, rfl, rfl, rfl, rfl, rfl, rfl, rfl, trivial⟩ [] rfl ?_
  intro j hj
  refine zA ?_
  refine zB ?_
  refine wl_pure Tryz.hT rfl rfl rfl ?_
  refine wl_nil ?_
  refine zE ?_
  refine zA ?_
  refine wc_cond rfl (fun h => ?_) (fun h => ?_)
  · have hj : j < (rg rs k).length := by simp at h; omega
    clear h
    have hlj := half_len (mvS f) (rg rs k) j
    have hsj := half_sd (mvS f) (rg rs k) hj
    have hset := half_set (mvS f) (rg rs k) hj
    generalize eL : ((rg rs k).take j).map (mvS f) ++ (rg rs k).drop j = L at hlj hsj hset
    have hgj : L[j]? = some (sd (rg rs k) j) := by rw [← hsj]; exact sd_get (by omega)
    refine zI ?_
    refine zE ?_
    refine zA ?_
    refine zH ?_
    refine zA ?_
    refine zB ?_
    iterate 2 refine wl_pure Tryz.hT rfl rfl rfl ?_
    refine wl_nil ?_
    refine zE ?_
    refine zA ?_
    refine zB ?_
    iterate 3 refine wl_pure Tryz.hT rfl rfl rfl ?_
    refine wl_indexAddr Tryz.hT rfl rfl rfl rfl rfl rfl rfl (by omega) (by omega) ?_
    refine wl_load rfl rfl rfl rfl (fun W hp => RowAt.load 0 Tryz.hT rfl ((fun W hp => Vec.rowAt (f := Sd.cells) (n := 7) (fun _ => rfl) hp 5 rfl hgj) W hp) rfl) ?_
    refine wl_call1 rfl rfl rfl rfl rfl rfl (by kernel_rfl) (fun W _ => (corner_gives ..)) ?_
    refine wl_call1 (g := g) (capt := capt) (v := spot (f (sd (rg rs k) j).x (sd (rg rs k) j).y).1 (f (sd (rg rs k) j).x (sd (rg rs k) j).y).2) rfl rfl rfl rfl rfl rfl hE (fun W' hp => hf W' hp.below (sd (rg rs k) j).x (sd (rg rs k) j).y) ?_
    (refine wl_allocZ Tryz.hZ rfl rfl rfl rfl ?_; intro)
    refine wl_storeBx 6 Tryz.hT rfl rfl rfl rfl rfl rfl rfl rfl rfl rfl rfl ?_
    refine wl_nil ?_
    rename_i b10
    refine zE ?_
    generalize hX : (f (sd (rg rs k) j).x (sd (rg rs k) j).y).1 = X at *
    generalize hY : (f (sd (rg rs k) j).x (sd (rg rs k) j).y).2 = Y at *
    have hjL : j < L.length := by omega
    have hlen7 : (cellsOf L ++ junk).length = capU * 7 := by rw [List.length_append, cellsOf_length, hlj, ← cellsOf_length]; exact hc2
    have h1 : splice (cellsOf L ++ junk) (0 + j * 7 + 0) [.int .i64 X] = cellsOf (L.set j { sd (rg rs k) j with x := X }) ++ junk := by
      rw [Nat.zero_add]
      exact set_cells (s' := { sd (rg rs k) j with x := X }) (by omega) L j hjL (by rw [hsj]; rfl)
    have h2 : splice (cellsOf (L.set j { sd (rg rs k) j with x := X }) ++ junk) (0 + j * 7 + 1) [.int .i64 Y] = cellsOf (((rg rs k).take (j + 1)).map (mvS f) ++ (rg rs k).drop (j + 1)) ++ junk := by
      rw [Nat.zero_add, set_cells (s' := mvS f (sd (rg rs k) j)) (by omega) (L.set j { sd (rg rs k) j with x := X }) j (by rw [List.length_set]; exact hjL) (by
        have e : sd (L.set j { sd (rg rs k) j with x := X }) j = { sd (rg rs k) j with x := X } := by simp [sd, hjL]
        rw [e, ← hY]
        show (mvS f (sd (rg rs k) j)).cells = _
        unfold mvS
        rw [hX]; rfl), List.set_set, hset]
    refine wc_lateX (X := Unit) (fun _ => [(1, .func (.func g) #[] capt.toArray), (4, .pointer (some ⟨b4, 0, none⟩)), (5, .pointer (some ⟨b5, 0, none⟩)), (12, slv (some ⟨b, off, none⟩) rs.length cap), (13, .int .i64 (rs.length : Nat)), (14, .int .i64 (k : Nat)), (8, slv (some ⟨gU, 0, none⟩) (rg rs k).length capU), (21, .int .i64 ((rg rs k).length : Nat)), (22, .int .i64 (j : Nat))])
      (fun _ => [⟨b2, 24, [slv (some ⟨b, off, none⟩) rs.length cap], true, none⟩, ⟨b4, 24, [slv none 0 0], true, none⟩, ⟨b5, 24, [V.val k], true, none⟩, V.bx 27 (rowCells mk), mkB mk, (⟨some gU, capU, junk⟩ : Vec).bx 42 (cellsOf (((rg rs k).take (j + 1)).map (mvS f) ++ (rg rs k).drop (j + 1)))])
      4 [gone, gone, gone, gone, gone, gone, ⟨b10, 87, (spot X Y).cells.toList, true, none⟩] Tryz.mixed (by kernel_rfl) ?_ ?_
    · refine wq_pure Tryz.hT rfl rfl rfl ?_
      iterate 4 refine wq_pure Tryz.hT rfl rfl rfl ?_
      refine wq_loadBx 6 Tryz.hT rfl rfl rfl rfl rfl rfl rfl rfl ?_
      refine wq_pure Tryz.hT rfl rfl rfl ?_
      refine wq_loadBx 6 Tryz.hT rfl rfl rfl rfl rfl rfl rfl rfl ?_
      refine wq_indexAddr Tryz.hT rfl rfl rfl rfl rfl rfl rfl (by omega) (by omega) ?_
      refine wq_pure Tryz.hT rfl rfl rfl ?_
      refine wq_wt ?_
      refine wt_step rfl rfl (by ((repeat (first | refine Weak.same ?_ | refine Weak.off rfl ?_)); exact trivial)) ?_
      refine RS.cons ?_ (RS.nil)
      refine wl_storeTo 5 _ Tryz.hT rfl rfl rfl rfl rfl rfl rfl rfl rfl rfl (by show 0 + j * 7 + 0 + 1 ≤ (cellsOf L ++ junk).length; omega) h1 ?_
      refine wl_nil ?_
      refine ne_wt ?_
      refine wt_step rfl rfl (by ((repeat (first | refine Weak.same ?_ | refine Weak.off rfl ?_)); exact trivial)) ?_
      refine RS.cons ?_ (RS.nil)
      refine wl_indexAddr Tryz.hT rfl rfl rfl rfl rfl rfl rfl (by omega) (by omega) ?_
      refine wl_nil ?_
      refine ne_wt ?_
      refine wt_step rfl rfl (by ((repeat (first | refine Weak.same ?_ | refine Weak.off rfl ?_)); exact trivial)) ?_
      refine RS.cons ?_ (RS.nil)
      refine wl_pure Tryz.hT rfl rfl rfl ?_
      refine wl_nil ?_
      refine ne_wt ?_
      refine wt_step rfl rfl (by ((repeat (first | refine Weak.same ?_ | refine Weak.off rfl ?_)); exact trivial)) ?_
      refine RS.cons ?_ (RS.nil)
      refine wl_storeTo 5 _ Tryz.hT rfl rfl rfl rfl rfl rfl rfl rfl rfl rfl (by show 0 + j * 7 + 1 + 1 ≤ (cellsOf (L.set j { sd (rg rs k) j with x := X }) ++ junk).length; rw [List.length_append, cellsOf_length, List.length_set, ← cellsOf_length, ← List.length_append]; omega) h2 ?_
      refine wl_nil ?_
      refine ne_wt ?_
      refine wt_done rfl (by ((repeat (first | refine Weak.same ?_ | refine Weak.off rfl ?_)); exact trivial)) ?_
      exact ne_late () ⟨rfl, rfl, rfl, rfl, rfl, rfl, rfl, rfl, rfl, trivial⟩ [0, 1, 2, 3, 4, 5] (by decide) rfl
    · intro _
      refine zN ?_
      refine zE ?_
      refine zB ?_
      iterate 2 refine wl_pure Tryz.hT rfl rfl rfl ?_
      refine wl_nil ?_
      exact ne_loop (j + 1) hj (by omega) ⟨rfl, rfl, rfl, rfl, rfl, rfl, rfl, rfl, congrArg (fun z => some (Value.int .i64 z)) (wrap_id (x := (j : Int) + 1) (by omega) (by omega)), trivial⟩ [] rfl
  · have e : j = (rg rs k).length := by simp at h; omega
    subst e
    clear h
    have hfull : ((rg rs k).take (rg rs k).length).map (mvS f) ++ (rg rs k).drop (rg rs k).length = (rg rs k).map (mvS f) := by rw [List.take_length, List.drop_length, List.append_nil]
    have hlm : ((rg rs k).map (mvS f)).length = (rg rs k).length := List.length_map _
    have hU1 : (⟨some gU, capU, junk⟩ : Vec).OK 7 ((rg rs k).map (mvS f)).length (cellsOf ((rg rs k).map (mvS f))) := by
      refine ⟨cellsOf_length _, (fun h => by cases h), fun _ => ⟨by rw [hlm]; exact hc0, (hU0.cap (by simp)).2.1, ?_⟩⟩
      rw [cellsOf_length, hlm, ← cellsOf_length]; exact hc2
    have hrow : rowCells (mk ++ [((⟨some gU, capU, junk⟩ : Vec), (rg rs k).map (mvS f))]) = rowCells mk ++ [slv (some ⟨gU, 0, none⟩) (rg rs k).length capU] := by
      rw [rowCells_snoc]
      show _ ++ [slv (some ⟨gU, 0, none⟩) ((rg rs k).map (mvS f)).length capU] = _
      rw [hlm]
    have htk : mvR f (rs.take (k + 1)) = mvR f (rs.take k) ++ [(rg rs k).map (mvS f)] := by
      unfold mvR
      rw [List.take_add_one, rg_get hk]; simp
    rw [hfull]
    refine zJ ?_
    iterate 2 refine zK ?_
    refine zL ?_
    refine zE ?_
    refine zB ?_
    refine wl_pure Tryz.hT rfl rfl rfl ?_
    refine wl_loadBx 2 Tryz.hT rfl rfl rfl rfl rfl rfl rfl rfl ?_
    refine wl_pure Tryz.hT rfl rfl rfl ?_
    (refine wl_buildRowZ Tryz.hZ Tryz.hT rfl rfl rfl rfl rfl rfl rfl rfl rfl rfl rfl ?_; intro)
    refine wl_appendTo (V := V) (xs := rowCells mk) (len := k) 3 6 Tryz.vec22 (k + 1) (rowCells (mk ++ [((⟨some gU, capU, junk⟩ : Vec), (rg rs k).map (mvS f))])) rfl rfl rfl rfl rfl rfl rfl rfl rfl rfl rfl hV rfl rfl rfl (by rw [hrow]; rfl) (by simp only [maxLen]; omega) (by omega) rfl ?_
    intro g1 c1 j1 hV1
    refine wl_pure Tryz.hT rfl rfl rfl ?_
    refine wl_storeBx 2 Tryz.hT rfl rfl rfl rfl rfl rfl rfl rfl rfl rfl rfl ?_
    refine wl_nil ?_
    refine zN ?_
    refine zE ?_
    refine zB ?_
    iterate 2 refine wl_pure Tryz.hT rfl rfl rfl ?_
    refine wl_nil ?_
    refine ne_join 4 5 (mkB (mk ++ [((⟨some gU, capU, junk⟩ : Vec), (rg rs k).map (mvS f))])) rfl rfl rfl (mkB_snoc mk _ _) ?_
    exact ne_loop (k + 1, ⟨some g1, c1, j1⟩, mk ++ [((⟨some gU, capU, junk⟩ : Vec), (rg rs k).map (mvS f))]) ⟨hk, htk ▸ hmk.snoc hU1, hV1⟩ (by show rs.length - (k + 1) < rs.length - k; omega) ⟨rfl, rfl, rfl, rfl, rfl, congrArg (fun z => some (Value.int .i64 z)) (wrap_id (x := (k : Int) + 1) (by omega) (by omega)), trivial⟩ [gone, _] rfl
end Go.Proofs.YtnpfkmbcejgnjaaGreatDoor
namespace Go.Proofs.YtnpfkmbcejgnjaaGreatDoor
open Go Go.RowKit Go.Am
set_option maxRecDepth 10000
-- BOXES 8
theorem bounded1_gives (s : Sd) : Gives Tryz.prog 120 [s.val] (.bool (!rgd s)) := by
  intro W
  refine calls_enter Tryz.func120 rfl rfl rfl ?_
  refine zA ?_
  refine zB ?_
  (refine wl_box rfl rfl rfl rfl ?_; intro)
  refine wl_pure Tryz.hT rfl rfl rfl ?_
  refine wl_nil ?_
  refine zE ?_
  refine zA ?_
  refine zB ?_
  refine wl_loadBx 0 Tryz.hT rfl rfl rfl rfl rfl rfl rfl rfl ?_
  refine wl_call1 rfl rfl rfl rfl rfl rfl (by kernel_rfl) (fun W _ => (ranged_gives ..)) ?_
  iterate 2 refine wl_pure Tryz.hT rfl rfl rfl ?_
  refine wl_nil ?_
  refine zE ?_
  refine zO ?_
  exact ne_ret1 Tryz.hT rfl (.tmp rfl) () rfl trivial fun W _ => NewBx.nil _ _
abbrev noPlan : Value := .agg #[.slice none 0 0]
theorem bounded_gives (W : World) (p : Option Addr) (cap : Nat) (rs : List (List Sd)) (hn : rs.length < 4611686018427387904) (hT : tot rs < 1099511627776) (hR : RingsP W p rs) (hne : ∀ l ∈ rs, l ≠ []) :
    CallsR Tryz.prog 69 #[planV p rs.length cap] W (fun _ : Unit => if rs.flatten.any (fun s => !rgd s) = true then .tuple #[noPlan, .int .i64 2] else .tuple #[planV p rs.length cap, .int .i64 0]) (fun _ => True) (fun _ => []) := by
  refine calls_enter (args := [planV p rs.length cap]) Tryz.func69 rfl rfl rfl ?_
  refine zA ?_
  refine zB ?_
  (refine wl_box rfl rfl rfl rfl ?_; intro)
  (refine wl_allocZ Tryz.hZ rfl rfl rfl rfl ?_; intro)
  refine wl_pure Tryz.hT rfl rfl rfl ?_
  refine wl_nil ?_
  refine zE ?_
  iterate 2 refine zA ?_
  refine zB ?_
  refine wl_pure Tryz.hT rfl rfl rfl ?_
  refine wl_loadBx 0 Tryz.hT rfl rfl rfl rfl rfl rfl rfl rfl ?_
  refine wl_call (X := Vec) rfl rfl rfl rfl rfl rfl (by kernel_rfl) (fun W hp => concat_gives W p cap rs hn hT (hR.hp hp) hne) ?_
  intro V hV
  obtain ⟨q, cq, eV, hVR⟩ := Vec.ring hV
  have hfl : rs.flatten.length < 4611686018427387904 := by rw [flat_len]; omega
  refine wl_upd 6 _ rfl eV ?_
  refine wl_call1 rfl rfl rfl rfl rfl rfl (by kernel_rfl) (fun W hp => containsSd_gives 120 (by kernel_rfl) (fun s => !rgd s) bounded1_gives W q cq rs.flatten hfl (hVR hp 2 rfl)) ?_
  refine wl_nil ?_
  refine zE ?_
  refine wc_cond rfl (fun h => ?_) (fun h => ?_)
  · refine zA ?_
    refine zB ?_
    refine wl_buildZ Tryz.hZ Tryz.hT rfl rfl rfl rfl rfl rfl rfl rfl ?_
    refine wl_storeBx 1 Tryz.hT rfl rfl rfl rfl rfl rfl rfl rfl rfl rfl rfl ?_
    refine wl_pure Tryz.hT rfl rfl rfl ?_
    refine wl_nil ?_
    refine zE ?_
    refine zO ?_
    refine zP ?_
    exact ne_ret2 Tryz.hT rfl (.cell 1 rfl rfl rfl rfl rfl) (.tmp rfl) () (by rw [if_pos h]; rfl) trivial fun W _ => NewBx.nil _ _
  · refine zI ?_
    refine zE ?_
    refine zA ?_
    refine zB ?_
    refine wl_loadBx 0 Tryz.hT rfl rfl rfl rfl rfl rfl rfl rfl ?_
    refine wl_storeBx 1 Tryz.hT rfl rfl rfl rfl rfl rfl rfl rfl rfl rfl rfl ?_
    refine wl_pure Tryz.hT rfl rfl rfl ?_
    refine wl_nil ?_
    refine zE ?_
    refine zO ?_
    exact ne_ret2 Tryz.hT rfl (.cell 1 rfl rfl rfl rfl rfl) (.tmp rfl) () (by rw [if_neg (by rw [h]; decide)]; rfl) trivial fun W _ => NewBx.nil _ _
def shF (dx dy : Int) (x y : Int) : Int × Int := (w64 (x + dx), w64 (y + dy))
theorem shift1_gives (dx dy x y : Int) (W : World) (b1 b2 : Nat) (h1 : RowAt W b1 0 [.int .i64 dx]) (h2 : RowAt W b2 0 [.int .i64 dy]) :
    CallsR Tryz.prog 71 #[spot x y, .pointer (some ⟨b1, 0, none⟩), .pointer (some ⟨b2, 0, none⟩)] W (fun _ : Unit => spot (shF dx dy x y).1 (shF dx dy x y).2) (fun _ => True) (fun _ => []) := by
  refine calls_enter (args := [spot x y, .pointer (some ⟨b1, 0, none⟩), .pointer (some ⟨b2, 0, none⟩)]) Tryz.func71 rfl rfl rfl ?_
  refine zA ?_
  refine zB ?_
  (refine wl_box rfl rfl rfl rfl ?_; intro)
  (refine wl_allocZ Tryz.hZ rfl rfl rfl rfl ?_; intro)
  refine wl_nil ?_
  refine zE ?_
  refine zA ?_
  refine zB ?_
  refine wl_pure Tryz.hT rfl rfl rfl ?_
  refine wl_loadBx 0 Tryz.hT rfl rfl rfl rfl rfl rfl rfl rfl ?_
  refine wl_load rfl rfl rfl rfl (fun W hp => RowAt.load 0 Tryz.hT rfl ((fun W hp => h1.hp hp) W hp) rfl) ?_
  iterate 2 refine wl_pure Tryz.hT rfl rfl rfl ?_
  refine wl_loadBx 0 Tryz.hT rfl rfl rfl rfl rfl rfl rfl rfl ?_
  refine wl_load rfl rfl rfl rfl (fun W hp => RowAt.load 0 Tryz.hT rfl ((fun W hp => h2.hp hp) W hp) rfl) ?_
  refine wl_pure Tryz.hT rfl rfl rfl ?_
  refine wl_buildZ Tryz.hZ Tryz.hT rfl rfl rfl rfl rfl rfl rfl rfl ?_
  refine wl_storeBx 1 Tryz.hT rfl rfl rfl rfl rfl rfl rfl rfl rfl rfl rfl ?_
  refine wl_nil ?_
  refine zE ?_
  refine zO ?_
  exact ne_ret1 Tryz.hT rfl (.cell 1 rfl rfl rfl rfl rfl) () rfl trivial fun W _ => NewBx.nil _ _
/-- Are the numbers by which a plan is shifted too great. -/
def shFar (dx dy : Int) : Bool := decide ((if dy > dx then dy else dx) > 65536) || decide ((if dy < dx then dy else dx) < -65536)
/-- The error of Shift. -/
def shE (rs : List (List Sd)) (dx dy : Int) : Int :=
  if chk rs ≠ 0 then 1
  else if shFar dx dy = true then 2
  else if (mvR (shF dx dy) rs).flatten.any (fun s => !rgd s) = true then 2
  else 0
theorem tot_mvR (f : Int → Int → Int × Int) (rs : List (List Sd)) : tot (mvR f rs) = tot rs := by
  unfold tot mvR
  rw [List.map_map]
  congr 1
  apply List.map_congr_left
  intro l _
  simp
theorem mvR_len (f : Int → Int → Int × Int) (rs : List (List Sd)) : (mvR f rs).length = rs.length := by simp [mvR]
theorem mvR_ne {f : Int → Int → Int × Int} {rs : List (List Sd)} (h : ∀ l ∈ rs, l ≠ []) : ∀ l ∈ mvR f rs, l ≠ [] := fun l hl => by
  obtain ⟨l0, h1, rfl⟩ := List.mem_map.1 hl
  exact fun e => h l0 h1 (List.map_eq_nil_iff.1 e)
theorem shE_zero {rs : List (List Sd)} {dx dy : Int} (h : shE rs dx dy = 0) : chk rs = 0 ∧ shFar dx dy = false ∧ (mvR (shF dx dy) rs).flatten.any (fun s => !rgd s) = false := by
  unfold shE at h
  split at h
  · cases h
  · rename_i h1
    split at h
    · cases h
    · rename_i h2
      split at h
      · cases h
      · rename_i h3
        exact ⟨Classical.byContradiction h1, by simpa using h2, by simpa using h3⟩
set_option maxHeartbeats 4000000 in
theorem shift_ok (W : World) (p : Option Addr) (cap : Nat) (rs : List (List Sd)) (dx dy : Int) (hn : rs.length < 1099511627776) (hR : RingsP W p rs) (he : shE rs dx dy = 0) :
    CallsR Tryz.prog 26 #[planV p rs.length cap, .int .i64 dx, .int .i64 dy] W (fun x : Vec × Made => .tuple #[.agg #[x.1.val rs.length], .int .i64 0]) (fun x => MadeOK x.2 (mvR (shF dx dy) rs) ∧ x.1.OK 1 rs.length (rowCells x.2)) (fun x => [x.1.bx 27 (rowCells x.2), mkB x.2]) := by
  obtain ⟨hc, hf, h3⟩ := shE_zero he
  obtain ⟨hne, hT24, _⟩ := chk_ne hc
  have hT : tot rs < 1099511627776 := by omega
  unfold shFar at hf
  obtain ⟨h16', h17'⟩ := Bool.or_eq_false_iff.1 hf
  refine calls_enter (args := [planV p rs.length cap, .int .i64 dx, .int .i64 dy]) Tryz.func26 rfl rfl rfl ?_
  refine zA ?_
  refine zB ?_
  (refine wl_box rfl rfl rfl rfl ?_; intro)
  (refine wl_box rfl rfl rfl rfl ?_; intro)
  (refine wl_box rfl rfl rfl rfl ?_; intro)
  (refine wl_allocZ Tryz.hZ rfl rfl rfl rfl ?_; intro)
  refine wl_pure Tryz.hT rfl rfl rfl ?_
  refine wl_nil ?_
  rename_i b3 b4 b5 b6
  refine zE ?_
  iterate 2 refine zA ?_
  refine zB ?_
  refine wl_loadBx 0 Tryz.hT rfl rfl rfl rfl rfl rfl rfl rfl ?_
  refine wl_call1 rfl rfl rfl rfl rfl rfl (by kernel_rfl) (fun W hp => (check_gives W p cap rs (by omega) hT (hR.hp hp)).cast (by rw [hc])) ?_
  refine wl_pure Tryz.hT rfl rfl rfl ?_
  refine wl_nil ?_
  refine zE ?_
  refine zS rfl ?_
  refine zI ?_
  refine zE ?_
  iterate 2 refine zA ?_
  refine zB ?_
  refine wl_loadBx 1 Tryz.hT rfl rfl rfl rfl rfl rfl rfl rfl ?_
  refine wl_loadBx 2 Tryz.hT rfl rfl rfl rfl rfl rfl rfl rfl ?_
  iterate 3 refine wl_pure Tryz.hT rfl rfl rfl ?_
  refine wl_upd 16 (.bool false) rfl (congrArg Value.bool h16') ?_
  refine wl_loadBx 1 Tryz.hT rfl rfl rfl rfl rfl rfl rfl rfl ?_
  refine wl_loadBx 2 Tryz.hT rfl rfl rfl rfl rfl rfl rfl rfl ?_
  iterate 3 refine wl_pure Tryz.hT rfl rfl rfl ?_
  refine wl_nil ?_
  refine ne_then ?_
  refine wc_upd 21 (.bool false) rfl (congrArg Value.bool h17') ?_
  refine zS rfl ?_
  refine zI ?_
  refine zE ?_
  refine zA ?_
  refine zB ?_
  refine wl_loadBx 0 Tryz.hT rfl rfl rfl rfl rfl rfl rfl rfl ?_
  refine wl_pure Tryz.hT rfl rfl rfl ?_
  refine wl_call (X := Vec × Made) rfl rfl rfl rfl rfl rfl (by kernel_rfl) (fun W hp => moved_gives 71 (by kernel_rfl) [.pointer (some ⟨b4, 0, none⟩), .pointer (some ⟨b5, 0, none⟩)] (shF dx dy) W p cap rs hn hT (hR.hp hp) hne (fun W' hb x y => shift1_gives dx dy x y W' b4 b5 ((RowAt.of_bx hp 1 rfl rfl).below (Nat.le_refl _) hb) ((RowAt.of_bx hp 2 rfl rfl).below (Nat.le_refl _) hb))) ?_
  rintro ⟨V, mk⟩ ⟨hmk, hV⟩
  have hV' : V.OK 1 (mvR (shF dx dy) rs).length (rowCells mk) := by rw [mvR_len]; exact hV
  obtain ⟨q, cq, eV, hrings⟩ := made_rings hmk hV'
  refine wl_upd 25 (planV q (mvR (shF dx dy) rs).length cq) rfl (congrArg (fun v => Value.agg #[v]) (by rw [← eV, mvR_len])) ?_
  refine wl_call1 rfl rfl rfl rfl rfl rfl (by kernel_rfl) (fun W hp => (bounded_gives W q cq (mvR (shF dx dy) rs) (by rw [mvR_len]; omega) (by rw [tot_mvR]; exact hT) (hrings hp 4 5 rfl rfl) (mvR_ne hne)).cast (if_neg (by rw [h3]; decide))) ?_
  iterate 2 refine wl_pure Tryz.hT rfl rfl rfl ?_
  refine wl_storeBx 3 Tryz.hT rfl rfl rfl rfl rfl rfl rfl rfl rfl rfl rfl ?_
  refine wl_pure Tryz.hT rfl rfl rfl ?_
  refine wl_nil ?_
  refine zE ?_
  refine zO ?_
  exact ne_ret2 Tryz.hT rfl (.cell 3 rfl rfl rfl rfl rfl) (.tmp rfl) (V, mk) (by show Value.tuple #[.agg #[slv q _ cq], _] = .tuple #[.agg #[V.val rs.length], _]; rw [← eV, mvR_len]) ⟨hmk, hV⟩ fun W hp => (hp.pick [4, 5] (by decide) rfl).own
set_option maxHeartbeats 4000000 in
theorem shift_no (W : World) (p : Option Addr) (cap : Nat) (rs : List (List Sd)) (dx dy : Int) (hn : rs.length < 1099511627776) (hT : tot rs < 1099511627776) (hR : RingsP W p rs) (he : shE rs dx dy ≠ 0) :
    CallsR Tryz.prog 26 #[planV p rs.length cap, .int .i64 dx, .int .i64 dy] W (fun _ : Unit => .tuple #[noPlan, .int .i64 (shE rs dx dy)]) (fun _ => True) (fun _ => []) := by
  refine calls_enter (args := [planV p rs.length cap, .int .i64 dx, .int .i64 dy]) Tryz.func26 rfl rfl rfl ?_
  refine zA ?_
  refine zB ?_
  (refine wl_box rfl rfl rfl rfl ?_; intro)
  (refine wl_box rfl rfl rfl rfl ?_; intro)
  (refine wl_box rfl rfl rfl rfl ?_; intro)
  (refine wl_allocZ Tryz.hZ rfl rfl rfl rfl ?_; intro)
  refine wl_pure Tryz.hT rfl rfl rfl ?_
  refine wl_nil ?_
  rename_i b3 b4 b5 b6
  refine zE ?_
  iterate 2 refine zA ?_
  refine zB ?_
  refine wl_loadBx 0 Tryz.hT rfl rfl rfl rfl rfl rfl rfl rfl ?_
  refine wl_call1 rfl rfl rfl rfl rfl rfl (by kernel_rfl) (fun W hp => check_gives W p cap rs (by omega) hT (hR.hp hp)) ?_
  refine wl_pure Tryz.hT rfl rfl rfl ?_
  refine wl_nil ?_
  refine zE ?_
  refine wc_cond rfl (fun h => ?_) (fun h => ?_)
  · have h : chk rs ≠ 0 := by have h' : (chk rs != 0) = true := h; simpa using h'
    refine zA ?_
    refine zB ?_
    refine wl_buildZ Tryz.hZ Tryz.hT rfl rfl rfl rfl rfl rfl rfl rfl ?_
    refine wl_storeBx 3 Tryz.hT rfl rfl rfl rfl rfl rfl rfl rfl rfl rfl rfl ?_
    refine wl_pure Tryz.hT rfl rfl rfl ?_
    refine wl_nil ?_
    refine zE ?_
    refine zO ?_
    refine zP ?_
    exact ne_ret2 Tryz.hT rfl (.cell 3 rfl rfl rfl rfl rfl) (.tmp rfl) () (by unfold shE; rw [if_pos h]; rfl) trivial fun W _ => NewBx.nil _ _
  have hc : chk rs = 0 := by have h' : (chk rs != 0) = false := h; simpa using h'
  clear h
  obtain ⟨hne, hT24, _⟩ := chk_ne hc
  have hN : ¬ (chk rs ≠ 0) := fun h => h hc
  refine zI ?_
  refine zE ?_
  iterate 2 refine zA ?_
  refine zB ?_
  refine wl_loadBx 1 Tryz.hT rfl rfl rfl rfl rfl rfl rfl rfl ?_
  refine wl_loadBx 2 Tryz.hT rfl rfl rfl rfl rfl rfl rfl rfl ?_
  iterate 3 refine wl_pure Tryz.hT rfl rfl rfl ?_
  refine wl_part 16 rfl (fun h16 => ?_) (fun h16 => ?_)
  · have hfar : shFar dx dy = true := by have h' : decide ((if dy > dx then dy else dx) > 65536) = true := h16; unfold shFar; rw [h']; rfl
    iterate 4 refine wl_skip rfl rfl ?_
    refine wl_pure Tryz.hT rfl rfl rfl ?_
    refine wl_nil ?_
    refine zE ?_
    refine zR rfl ?_
    refine zA ?_
    refine zB ?_
    refine wl_buildZ Tryz.hZ Tryz.hT rfl rfl rfl rfl rfl rfl rfl rfl ?_
    refine wl_storeBx 3 Tryz.hT rfl rfl rfl rfl rfl rfl rfl rfl rfl rfl rfl ?_
    refine wl_pure Tryz.hT rfl rfl rfl ?_
    refine wl_nil ?_
    refine zE ?_
    refine zO ?_
    refine zP ?_
    exact ne_ret2 Tryz.hT rfl (.cell 3 rfl rfl rfl rfl rfl) (.tmp rfl) () (by unfold shE; rw [if_neg hN, if_pos hfar]; rfl) trivial fun W _ => NewBx.nil _ _
  have h16' : decide ((if dy > dx then dy else dx) > 65536) = false := h16
  refine wl_loadBx 1 Tryz.hT rfl rfl rfl rfl rfl rfl rfl rfl ?_
  refine wl_loadBx 2 Tryz.hT rfl rfl rfl rfl rfl rfl rfl rfl ?_
  iterate 3 refine wl_pure Tryz.hT rfl rfl rfl ?_
  refine wl_nil ?_
  refine zE ?_
  refine wc_cond rfl (fun h => ?_) (fun h => ?_)
  · have hfar : shFar dx dy = true := by have h' : decide ((if dy < dx then dy else dx) < -65536) = true := h; unfold shFar; rw [h', Bool.or_true]
    refine zA ?_
    refine zB ?_
    refine wl_buildZ Tryz.hZ Tryz.hT rfl rfl rfl rfl rfl rfl rfl rfl ?_
    refine wl_storeBx 3 Tryz.hT rfl rfl rfl rfl rfl rfl rfl rfl rfl rfl rfl ?_
    refine wl_pure Tryz.hT rfl rfl rfl ?_
    refine wl_nil ?_
    refine zE ?_
    refine zO ?_
    refine zP ?_
    exact ne_ret2 Tryz.hT rfl (.cell 3 rfl rfl rfl rfl rfl) (.tmp rfl) () (by unfold shE; rw [if_neg hN, if_pos hfar]; rfl) trivial fun W _ => NewBx.nil _ _
  have hfar : ¬ (shFar dx dy = true) := by have h' : decide ((if dy < dx then dy else dx) < -65536) = false := h; unfold shFar; rw [h16', h']; decide
  clear h
  refine zI ?_
  refine zE ?_
  refine zA ?_
  refine zB ?_
  refine wl_loadBx 0 Tryz.hT rfl rfl rfl rfl rfl rfl rfl rfl ?_
  refine wl_pure Tryz.hT rfl rfl rfl ?_
  refine wl_call (X := Vec × Made) rfl rfl rfl rfl rfl rfl (by kernel_rfl) (fun W hp => moved_gives 71 (by kernel_rfl) [.pointer (some ⟨b4, 0, none⟩), .pointer (some ⟨b5, 0, none⟩)] (shF dx dy) W p cap rs hn hT (hR.hp hp) hne (fun W' hb x y => shift1_gives dx dy x y W' b4 b5 ((RowAt.of_bx hp 1 rfl rfl).below (Nat.le_refl _) hb) ((RowAt.of_bx hp 2 rfl rfl).below (Nat.le_refl _) hb))) ?_
  rintro ⟨V, mk⟩ ⟨hmk, hV⟩
  have hV' : V.OK 1 (mvR (shF dx dy) rs).length (rowCells mk) := by rw [mvR_len]; exact hV
  obtain ⟨q, cq, eV, hrings⟩ := made_rings hmk hV'
  refine wl_upd 25 (planV q (mvR (shF dx dy) rs).length cq) rfl (congrArg (fun v => Value.agg #[v]) (by rw [← eV, mvR_len])) ?_
  have h3 : (mvR (shF dx dy) rs).flatten.any (fun s => !rgd s) = true := by
    cases h : (mvR (shF dx dy) rs).flatten.any (fun s => !rgd s) with
    | true => rfl
    | false => exact absurd (by unfold shE; rw [if_neg hN, if_neg hfar, if_neg (by rw [h]; decide)]) he
  refine wl_call1 rfl rfl rfl rfl rfl rfl (by kernel_rfl) (fun W hp => (bounded_gives W q cq (mvR (shF dx dy) rs) (by rw [mvR_len]; omega) (by rw [tot_mvR]; exact hT) (hrings hp 4 5 rfl rfl) (mvR_ne hne)).cast (if_pos h3)) ?_
  iterate 2 refine wl_pure Tryz.hT rfl rfl rfl ?_
  refine wl_storeBx 3 Tryz.hT rfl rfl rfl rfl rfl rfl rfl rfl rfl rfl rfl ?_
  refine wl_pure Tryz.hT rfl rfl rfl ?_
  refine wl_nil ?_
  refine zE ?_
  refine zO ?_
  exact ne_ret2 Tryz.hT rfl (.cell 3 rfl rfl rfl rfl rfl) (.tmp rfl) () (by unfold shE; rw [if_neg hN, if_neg hfar, if_pos h3]; rfl) trivial fun W _ => NewBx.nil _ _
end Go.Proofs.YtnpfkmbcejgnjaaGreatDoor
namespace Go.Proofs.YtnpfkmbcejgnjaaGreatDoor
open Go Go.RowKit Go.Am
/-- A side moved, without a wrap. -/
def tr (dx dy : Int) (s : Sd) : Sd := { s with x := s.x + dx, y := s.y + dy }
def trR (dx dy : Int) (rs : List (List Sd)) : List (List Sd) := rs.map (·.map (tr dx dy))
theorem all_congr {n : Nat} {f g : Nat → Bool} (h : ∀ i, i < n → f i = g i) : (List.range n).all f = (List.range n).all g := by
  rw [Bool.eq_iff_iff, List.all_eq_true, List.all_eq_true]
  constructor <;> intro h1 i hi
  · rw [← h i (List.mem_range.1 hi)]; exact h1 i hi
  · rw [h i (List.mem_range.1 hi)]; exact h1 i hi
/-- All coordinates are in their range. -/
def allR (rs : List (List Sd)) : Prop := ∀ l ∈ rs, ∀ s ∈ l, inR s
theorem chk_zero {rs : List (List Sd)} (h0 : ∀ l ∈ rs, l ≠ []) (h1 : tot rs ≠ 0) (h2 : tot rs ≤ 24) (h3 : rs.flatten.any (fun s => !rgd s) = false) (h4 : ∀ l ∈ rs, shp l = true) (h5 : crs rs = false) (h6 : plc rs = true) (h7 : jnd rs = true) : chk rs = 0 := by
  unfold chk
  rw [if_neg, if_neg h1, if_neg (by omega), if_neg (by rw [h3]; decide), if_neg, if_neg (by rw [h5]; decide), if_neg (by rw [h6, h7]; decide)]
  · intro h
    obtain ⟨l, hl, h⟩ := List.any_eq_true.1 h
    rw [h4 l hl] at h; cases h
  · intro h
    obtain ⟨l, hl, h⟩ := List.any_eq_true.1 h
    rw [beq_iff_eq] at h
    exact h0 l hl (List.length_eq_zero_iff.1 h)
theorem any_rgd {rs : List (List Sd)} (h : rs.flatten.any (fun s => !rgd s) = false) : ∀ l ∈ rs, ∀ s ∈ l, rgd s = true := fun l hl s hs => by
  cases hr : rgd s with
  | true => rfl
  | false =>
    have : rs.flatten.any (fun s => !rgd s) = true := List.any_eq_true.2 ⟨s, List.mem_flatten.2 ⟨l, hl, hs⟩, by rw [hr]; rfl⟩
    rw [h] at this; cases this
end Go.Proofs.YtnpfkmbcejgnjaaGreatDoor
namespace Go.Proofs.YtnpfkmbcejgnjaaGreatDoor
open Go Go.RowKit Go.Am
/-- A side after a quarter turn that keeps the range of coordinates. -/
def qt (s : Sd) : Sd := { s with x := 65536 - s.y, y := s.x }
def qtR (rs : List (List Sd)) : List (List Sd) := rs.map (·.map qt)
theorem nxt_prv {n k : Nat} (h : k < n) : nxt n (prv n k) = k := by
  unfold nxt prv
  cases k with
  | zero =>
    rw [Nat.zero_add, Nat.mod_eq_of_lt (show n - 1 < n by omega), show n - 1 + 1 = n by omega, Nat.mod_self]
  | succ k => rw [show k + 1 + n - 1 = k + n by omega, Nat.add_mod_right, Nat.mod_eq_of_lt (show k < n by omega), Nat.mod_eq_of_lt h]
theorem inR_q {s : Sd} (h : inR s) : inR (qt s) := by
  obtain ⟨h1, h2, h3, h4⟩ := h
  exact ⟨by show 0 ≤ 65536 - s.y; omega, by show 65536 - s.y ≤ 65536; omega, h1, h2⟩
theorem d64 {a b : Int} (h1 : 0 ≤ a ∧ a ≤ 65536) (h2 : 0 ≤ b ∧ b ≤ 65536) : w64 (a - b) = a - b := w64_id (by omega) (by omega)
theorem shp_side {l : List Sd} (hr : ∀ s ∈ l, inR s) (h : shp l = true) {i : Nat} (hi : i < l.length) :
    ¬ (((sd l (nxt l.length i)).x - (sd l i).x = 0) ↔ ((sd l (nxt l.length i)).y - (sd l i).y = 0)) ∧ ¬ (((sd l i).x - (sd l (prv l.length i)).x = 0) ↔ ((sd l (nxt l.length i)).x - (sd l i).x = 0)) := by
  unfold shp at h
  obtain ⟨_, h⟩ := Bool.and_eq_true_iff.1 h
  have h1 := List.all_eq_true.1 h i (List.mem_range.2 hi)
  obtain ⟨s1, s2, s3, s4⟩ := sd_inR hr hi
  obtain ⟨n1, n2, n3, n4⟩ := sd_inR hr (nxt_lt hi)
  obtain ⟨p1, p2, p3, p4⟩ := sd_inR hr (prv_lt hi)
  unfold okSide okAt at h1
  rw [d64 ⟨n1, n2⟩ ⟨s1, s2⟩, d64 ⟨n3, n4⟩ ⟨s3, s4⟩, d64 ⟨s1, s2⟩ ⟨p1, p2⟩] at h1
  obtain ⟨h2, h3⟩ := Bool.and_eq_true_iff.1 h1
  refine ⟨fun e => ?_, fun e => ?_⟩
  · have : (((sd l (nxt l.length i)).x - (sd l i).x == 0) == ((sd l (nxt l.length i)).y - (sd l i).y == 0)) = true := by rw [beq_iff_eq, Bool.eq_iff_iff, beq_iff_eq, beq_iff_eq]; exact e
    rw [this] at h2; cases h2
  · have : (((sd l i).x - (sd l (prv l.length i)).x == 0) == ((sd l (nxt l.length i)).x - (sd l i).x == 0)) = true := by rw [beq_iff_eq, Bool.eq_iff_iff, beq_iff_eq, beq_iff_eq]; exact e
    rw [this] at h3; cases h3
theorem shp_len {l : List Sd} (h : shp l = true) : 4 ≤ l.length := by
  unfold shp at h
  exact of_decide_eq_true (Bool.and_eq_true_iff.1 h).1
theorem shp_mk {l : List Sd} (hr : ∀ s ∈ l, inR s) (h4 : 4 ≤ l.length)
    (h : ∀ i, i < l.length → ¬ (((sd l (nxt l.length i)).x - (sd l i).x = 0) ↔ ((sd l (nxt l.length i)).y - (sd l i).y = 0)) ∧ ¬ (((sd l i).x - (sd l (prv l.length i)).x = 0) ↔ ((sd l (nxt l.length i)).x - (sd l i).x = 0))) : shp l = true := by
  unfold shp
  rw [decide_eq_true h4, Bool.true_and, List.all_eq_true]
  intro i hi
  have hi := List.mem_range.1 hi
  obtain ⟨h1, h2⟩ := h i hi
  obtain ⟨s1, s2, s3, s4⟩ := sd_inR hr hi
  obtain ⟨n1, n2, n3, n4⟩ := sd_inR hr (nxt_lt hi)
  obtain ⟨p1, p2, p3, p4⟩ := sd_inR hr (prv_lt hi)
  unfold okSide okAt
  rw [d64 ⟨n1, n2⟩ ⟨s1, s2⟩, d64 ⟨n3, n4⟩ ⟨s3, s4⟩, d64 ⟨s1, s2⟩ ⟨p1, p2⟩]
  have e1 : (((sd l (nxt l.length i)).x - (sd l i).x == 0) == ((sd l (nxt l.length i)).y - (sd l i).y == 0)) = false := by
    rw [Bool.eq_false_iff]; intro e; rw [beq_iff_eq, Bool.eq_iff_iff, beq_iff_eq, beq_iff_eq] at e; exact h1 e
  have e2 : (((sd l i).x - (sd l (prv l.length i)).x == 0) == ((sd l (nxt l.length i)).x - (sd l i).x == 0)) = false := by
    rw [Bool.eq_false_iff]; intro e; rw [beq_iff_eq, Bool.eq_iff_iff, beq_iff_eq, beq_iff_eq] at e; exact h2 e
  rw [e1, e2]; rfl
theorem mulB {a b : Int} (h1 : -65536 ≤ a ∧ a ≤ 65536) (h2 : -65536 ≤ b ∧ b ≤ 65536) : -4294967296 ≤ a * b ∧ a * b ≤ 4294967296 := by
  have h : (a * b).natAbs ≤ 65536 * 65536 := by
    rw [Int.natAbs_mul]
    exact Nat.mul_le_mul (by omega) (by omega)
  omega
theorem leftB_eq {s t u : Sd} (hs : inR s) (ht : inR t) (hu : inR u) : leftB s t u = decide ((t.x - s.x) * (u.y - t.y) - (t.y - s.y) * (u.x - t.x) > 0) := by
  obtain ⟨s1, s2, s3, s4⟩ := hs
  obtain ⟨t1, t2, t3, t4⟩ := ht
  obtain ⟨u1, u2, u3, u4⟩ := hu
  unfold leftB
  rw [d64 ⟨t1, t2⟩ ⟨s1, s2⟩, d64 ⟨u3, u4⟩ ⟨t3, t4⟩, d64 ⟨t3, t4⟩ ⟨s3, s4⟩, d64 ⟨u1, u2⟩ ⟨t1, t2⟩]
  have m1 := mulB (a := t.x - s.x) (b := u.y - t.y) (by omega) (by omega)
  have m2 := mulB (a := t.y - s.y) (b := u.x - t.x) (by omega) (by omega)
  rw [w64_id (x := (t.x - s.x) * _) (by omega) (by omega), w64_id (x := (t.y - s.y) * _) (by omega) (by omega), w64_id (by omega) (by omega)]
/-- The function of a corner whose changes count both kinds of crossings. -/
def hB (px py : Int) (s : Sd) : Bool := decide (s.x > px) && !decide (s.y > py)
theorem plsUp_pre (rs : List (List Sd)) (m : Nat) : ∀ d, ∃ t, plsUp rs (m + d) = plsUp rs m ++ t
  | 0 => ⟨[], by simp⟩
  | d + 1 => by
    obtain ⟨t, h⟩ := plsUp_pre rs m d
    refine ⟨t ++ prow (m + d) (rg rs (m + d)).length, ?_⟩
    show plsUp rs (m + d) ++ prow (m + d) (rg rs (m + d)).length = _
    rw [h, List.append_assoc]
theorem pl_at {rs : List (List Sd)} {r i : Nat} (hr : r < rs.length) (hi : i < (rg rs r).length) : pl rs (tot (rs.take r) + i) = (r, i) := by
  obtain ⟨t, h⟩ := plsUp_pre rs (r + 1) (rs.length - (r + 1))
  rw [show r + 1 + (rs.length - (r + 1)) = rs.length by omega] at h
  have h2 : plsUp rs (r + 1) = plsUp rs r ++ prow r (rg rs r).length := rfl
  have hlen := plsUp_len rs r (by omega)
  unfold pl
  rw [List.getD_eq_getElem?_getD, h, h2, List.append_assoc, List.getElem?_append_right (by omega), hlen, Nat.add_sub_cancel_left, List.getElem?_append_left (by simp [prow]; exact hi)]
  simp [prow, hi]
theorem tot_at {rs : List (List Sd)} {r i : Nat} (hr : r < rs.length) (hi : i < (rg rs r).length) : tot (rs.take r) + i < tot rs := by
  have h1 := tot_take_succ hr
  have h2 := tot_take_le rs (r + 1)
  omega
theorem meet_comm (t u t' u' : Sd) : meetB t u t' u' = meetB t' u' t u := by
  unfold meetB
  rw [Bool.eq_iff_iff]
  simp only [Bool.and_eq_true, decide_eq_true_eq]
  omega
theorem crs_apart {rs : List (List Sd)} (h : crs rs = false) {r i s k : Nat} (hr : r < rs.length) (hi : i < (rg rs r).length) (hs : s < rs.length) (hk : k < (rg rs s).length) (hne : r ≠ s) :
    meetB (bsd rs (r, i)) (esd rs (r, i)) (bsd rs (s, k)) (esd rs (s, k)) = false := by
  have one : ∀ {a b : Nat × Nat} {j j' : Nat}, pl rs j = a → pl rs j' = b → j < tot rs → j' < j → a.1 ≠ b.1 → meetB (bsd rs a) (esd rs a) (bsd rs b) (esd rs b) = false := by
    intro a b j j' ha hb hj hj' hab
    have h1 : ((List.range j).any fun k => crossP rs (pl rs j) (pl rs k)) = false := by
      cases he : ((List.range j).any fun k => crossP rs (pl rs j) (pl rs k)) with
      | false => rfl
      | true =>
        have : crs rs = true := List.any_eq_true.2 ⟨j, List.mem_range.2 hj, he⟩
        rw [h] at this; cases this
    have h2 : crossP rs (pl rs j) (pl rs j') = false := by
      cases he : crossP rs (pl rs j) (pl rs j') with
      | false => rfl
      | true =>
        have : ((List.range j).any fun k => crossP rs (pl rs j) (pl rs k)) = true := List.any_eq_true.2 ⟨j', List.mem_range.2 hj', he⟩
        rw [h1] at this; cases this
    rw [ha, hb] at h2
    unfold crossP nbB at h2
    rw [beq_eq_false_iff_ne.2 hab] at h2
    simpa using h2
  have hj := tot_at hr hi
  have hj' := tot_at hs hk
  rcases Nat.lt_trichotomy (tot (rs.take s) + k) (tot (rs.take r) + i) with hlt | heq | hgt
  · exact one (pl_at hr hi) (pl_at hs hk) hj hlt hne
  · have h1 := pl_at hr hi
    rw [← heq, pl_at hs hk] at h1
    exact absurd (congrArg Prod.fst h1).symm hne
  · rw [meet_comm]
    exact one (pl_at hs hk) (pl_at hr hi) hj' hgt (fun e => hne e.symm)
theorem any_rgd_mk {rs : List (List Sd)} (h : ∀ l ∈ rs, ∀ s ∈ l, rgd s = true) : rs.flatten.any (fun s => !rgd s) = false := Bool.eq_false_iff.2 fun h2 => by
  obtain ⟨s, hs, h2⟩ := List.any_eq_true.1 h2
  obtain ⟨l, hl, hs⟩ := List.mem_flatten.1 hs
  rw [h l hl s hs] at h2; cases h2
end Go.Proofs.YtnpfkmbcejgnjaaGreatDoor
namespace Go.Proofs.YtnpfkmbcejgnjaaGreatDoor
open Go Go.RowKit Go.Am
theorem sumTo_zero {f : Nat → Int} : ∀ n, (∀ i, i < n → f i = 0) → sumTo f n = 0
  | 0, _ => rfl
  | n + 1, h => by
    show sumTo f n + f n = 0
    rw [sumTo_zero n (fun i hi => h i (by omega)), h n (by omega)]; rfl
theorem sumTo_one {f : Nat → Int} {j : Nat} : ∀ n, j < n → (∀ i, i < n → i ≠ j → f i = 0) → sumTo f n = f j
  | 0, hj, _ => absurd hj (Nat.not_lt_zero _)
  | n + 1, hj, h => by
    show sumTo f n + f n = f j
    by_cases e : j = n
    · subst e
      rw [sumTo_zero j (fun i hi => h i (by omega) (by omega))]; omega
    · rw [sumTo_one n (by omega) (fun i hi => h i (by omega)), h n (by omega) (fun x => e x.symm)]; omega
theorem sumTo_sub (f g : Nat → Int) : ∀ n, sumTo (fun i => f i - g i) n = sumTo f n - sumTo g n
  | 0 => rfl
  | n + 1 => by
    show sumTo _ n + (f n - g n) = sumTo f n + f n - (sumTo g n + g n)
    rw [sumTo_sub f g n]; omega
theorem sumTo_swap (f : Nat → Nat → Int) (m : Nat) : ∀ n, sumTo (fun i => sumTo (fun j => f i j) m) n = sumTo (fun j => sumTo (fun i => f i j) n) m
  | 0 => (sumTo_zero m (fun _ _ => rfl)).symm
  | n + 1 => by
    show sumTo _ n + sumTo (fun j => f n j) m = sumTo (fun j => sumTo (fun i => f i j) n + f n j) m
    rw [sumTo_swap f m n, sumTo_add]
theorem sumTo_nonneg {f : Nat → Int} : ∀ n, (∀ i, i < n → 0 ≤ f i) → 0 ≤ sumTo f n
  | 0, _ => Int.le_refl _
  | n + 1, h => by
    have h1 := sumTo_nonneg n (fun i hi => h i (by omega))
    have h2 := h n (by omega)
    show 0 ≤ sumTo f n + f n
    omega
theorem sumTo_pos {f : Nat → Int} {j : Nat} : ∀ n, (∀ i, i < n → 0 ≤ f i) → j < n → 0 < f j → 0 < sumTo f n
  | 0, _, hj, _ => absurd hj (Nat.not_lt_zero _)
  | n + 1, h, hj, h0 => by
    have h1 := sumTo_nonneg n (fun i hi => h i (by omega))
    have h2 := h n (by omega)
    show 0 < sumTo f n + f n
    by_cases e : j = n
    · subst e; omega
    · have := sumTo_pos n (fun i hi => h i (by omega)) (show j < n by omega) h0
      omega
/-- 1 if a number is greater than another one, else 0. -/
def ind (a b : Int) : Int := if a > b then 1 else 0
theorem ind_cases (a b : Int) : (ind a b = 1 ∧ a > b) ∨ (ind a b = 0 ∧ a ≤ b) := by
  unfold ind
  by_cases h : a > b
  · rw [if_pos h]; exact .inl ⟨rfl, h⟩
  · rw [if_neg h]; exact .inr ⟨rfl, by omega⟩
theorem ind_gt {a b : Int} (h : a > b) : ind a b = 1 := if_pos h
theorem ind_le {a b : Int} (h : a ≤ b) : ind a b = 0 := if_neg (by omega)
theorem ind_sum {a : Int} (h : 0 ≤ a) : ∀ m : Nat, sumTo (fun x => ind a x) m = if a ≤ m then a else m
  | 0 => by
    show (0 : Int) = _
    split <;> omega
  | m + 1 => by
    show sumTo (fun x => ind a x) m + ind a m = _
    rw [ind_sum h m]
    rcases ind_cases a m with ⟨e, h1⟩ | ⟨e, h1⟩ <;> rw [e] <;> split <;> split <;> omega
theorem ind_total {a : Int} {m : Nat} (h : 0 ≤ a) (h2 : a ≤ m) : sumTo (fun x => ind a x) m = a := by rw [ind_sum h, if_pos h2]
/-- A point on a side. -/
def On (σ : Nat → Nat) (X Y : Nat → Int) (k : Nat) (px py : Int) : Prop :=
  (X k ≤ px ∨ X (σ k) ≤ px) ∧ (px ≤ X k ∨ px ≤ X (σ k)) ∧ (Y k ≤ py ∨ Y (σ k) ≤ py) ∧ (py ≤ Y k ∨ py ≤ Y (σ k))
/-- Closed lines of sides parallel to the axes; sides that are not neighbours have no common point. -/
structure Net (T : Nat) (σ : Nat → Nat) (X Y : Nat → Int) : Prop where
  lt : ∀ k, k < T → σ k < T
  sum : ∀ f : Nat → Int, sumTo (fun k => f (σ k)) T = sumTo f T
  side : ∀ k, k < T → (X (σ k) = X k ∧ Y (σ k) ≠ Y k) ∨ (Y (σ k) = Y k ∧ X (σ k) ≠ X k)
  alt : ∀ k, k < T → (X (σ k) = X k ↔ Y (σ (σ k)) = Y (σ k))
  free : ∀ j k, j < T → k < T → ∀ px py, On σ X Y j px py → On σ X Y k px py → j = k ∨ j = σ k ∨ k = σ j
/-- How often the lines go round a cell (by the ray to the right). -/
def Wn (T : Nat) (σ : Nat → Nat) (X Y : Nat → Int) (x y : Int) : Int := sumTo (fun k => ind (X k) x * (ind (Y (σ k)) y - ind (Y k) y)) T
def Vd (σ : Nat → Nat) (X Y : Nat → Int) (x y : Int) (k : Nat) : Int := (ind (X k) (x - 1) - ind (X k) x) * (ind (Y (σ k)) y - ind (Y k) y)
def Hd (σ : Nat → Nat) (X Y : Nat → Int) (x y : Int) (k : Nat) : Int := (ind (X (σ k)) x - ind (X k) x) * (ind (Y (σ k)) (y - 1) - ind (Y (σ k)) y)
def LC (σ : Nat → Nat) (X Y : Nat → Int) (k : Nat) (x y : Int) : Prop :=
  (Y k < Y (σ k) ∧ x = X k - 1 ∧ Y k ≤ y ∧ y < Y (σ k)) ∨ (Y (σ k) < Y k ∧ x = X k ∧ Y (σ k) ≤ y ∧ y < Y k) ∨
  (X k < X (σ k) ∧ y = Y k ∧ X k ≤ x ∧ x < X (σ k)) ∨ (X (σ k) < X k ∧ y = Y k - 1 ∧ X (σ k) ≤ x ∧ x < X k)
def RC (σ : Nat → Nat) (X Y : Nat → Int) (k : Nat) (x y : Int) : Prop :=
  (Y k < Y (σ k) ∧ x = X k ∧ Y k ≤ y ∧ y < Y (σ k)) ∨ (Y (σ k) < Y k ∧ x = X k - 1 ∧ Y (σ k) ≤ y ∧ y < Y k) ∨
  (X k < X (σ k) ∧ y = Y k - 1 ∧ X k ≤ x ∧ x < X (σ k)) ∨ (X (σ k) < X k ∧ y = Y k ∧ X (σ k) ≤ x ∧ x < X k)
/-- The number on the left of a side, one less on its right. -/
def Lv (T : Nat) (σ : Nat → Nat) (X Y : Nat → Int) (k : Nat) (L : Int) : Prop :=
  (∀ x y, LC σ X Y k x y → Wn T σ X Y x y = L) ∧ ∀ x y, RC σ X Y k x y → Wn T σ X Y x y = L - 1
section
variable {T : Nat} {σ : Nat → Nat} {X Y : Nat → Int}
theorem Wn_x (x y : Int) : Wn T σ X Y (x - 1) y - Wn T σ X Y x y = sumTo (Vd σ X Y x y) T := by
  unfold Wn
  rw [← sumTo_sub]
  exact sumTo_congr T fun k _ => by unfold Vd; rw [Int.sub_mul]
theorem Wn_y (N : Net T σ X Y) (x y : Int) : Wn T σ X Y x y - Wn T σ X Y x (y - 1) = sumTo (Hd σ X Y x y) T := by
  have h1 := N.sum fun k => ind (X k) x * (ind (Y k) (y - 1) - ind (Y k) y)
  unfold Wn
  rw [← sumTo_sub]
  have h2 : sumTo (fun i => ind (X i) x * (ind (Y (σ i)) y - ind (Y i) y) - ind (X i) x * (ind (Y (σ i)) (y - 1) - ind (Y i) (y - 1))) T =
      sumTo (fun k => ind (X k) x * (ind (Y k) (y - 1) - ind (Y k) y) - ind (X k) x * (ind (Y (σ k)) (y - 1) - ind (Y (σ k)) y)) T :=
    sumTo_congr T fun k _ => by simp only [Int.mul_sub]; omega
  rw [h2, sumTo_sub, ← h1, ← sumTo_sub]
  exact sumTo_congr T fun k _ => by unfold Hd; rw [Int.sub_mul]
theorem vd_ne {x y : Int} {k : Nat} (h : Vd σ X Y x y k ≠ 0) : X k = x ∧ ((Y k ≤ y ∧ y < Y (σ k)) ∨ (Y (σ k) ≤ y ∧ y < Y k)) := by
  unfold Vd at h
  rcases ind_cases (X k) (x - 1) with ⟨e1, h1⟩ | ⟨e1, h1⟩ <;> rcases ind_cases (X k) x with ⟨e2, h2⟩ | ⟨e2, h2⟩ <;> rcases ind_cases (Y (σ k)) y with ⟨e3, h3⟩ | ⟨e3, h3⟩ <;> rcases ind_cases (Y k) y with ⟨e4, h4⟩ | ⟨e4, h4⟩ <;>
    rw [e1, e2, e3, e4] at h <;> first | exact absurd rfl h | omega
theorem hd_ne {x y : Int} {k : Nat} (h : Hd σ X Y x y k ≠ 0) : Y (σ k) = y ∧ ((X k ≤ x ∧ x < X (σ k)) ∨ (X (σ k) ≤ x ∧ x < X k)) := by
  unfold Hd at h
  rcases ind_cases (X (σ k)) x with ⟨e1, h1⟩ | ⟨e1, h1⟩ <;> rcases ind_cases (X k) x with ⟨e2, h2⟩ | ⟨e2, h2⟩ <;> rcases ind_cases (Y (σ k)) (y - 1) with ⟨e3, h3⟩ | ⟨e3, h3⟩ <;> rcases ind_cases (Y (σ k)) y with ⟨e4, h4⟩ | ⟨e4, h4⟩ <;>
    rw [e1, e2, e3, e4] at h <;> first | exact absurd rfl h | omega
theorem vd_up {y : Int} {k : Nat} (h : Y k ≤ y ∧ y < Y (σ k)) : Vd σ X Y (X k) y k = 1 := by
  unfold Vd
  rw [ind_gt (show X k > X k - 1 by omega), ind_le (Int.le_refl _), ind_gt h.2, ind_le h.1]; rfl
theorem vd_down {y : Int} {k : Nat} (h : Y (σ k) ≤ y ∧ y < Y k) : Vd σ X Y (X k) y k = -1 := by
  unfold Vd
  rw [ind_gt (show X k > X k - 1 by omega), ind_le (Int.le_refl _), ind_gt h.2, ind_le h.1]; rfl
theorem hd_east {x : Int} {k : Nat} (e : Y (σ k) = Y k) (h : X k ≤ x ∧ x < X (σ k)) : Hd σ X Y x (Y k) k = 1 := by
  unfold Hd
  rw [e, ind_gt (show Y k > Y k - 1 by omega), ind_le (Int.le_refl (Y k)), ind_gt h.2, ind_le h.1]; rfl
theorem hd_west {x : Int} {k : Nat} (e : Y (σ k) = Y k) (h : X (σ k) ≤ x ∧ x < X k) : Hd σ X Y x (Y k) k = -1 := by
  unfold Hd
  rw [e, ind_gt (show Y k > Y k - 1 by omega), ind_le (Int.le_refl (Y k)), ind_gt h.2, ind_le h.1]; rfl
/-- Along an upright side nothing changes. -/
theorem Net.up_eq (N : Net T σ X Y) {k : Nat} (hk : k < T) (hv : X (σ k) = X k) {c y : Int} (hc : c = X k - 1 ∨ c = X k) (h1 : (Y k ≤ y ∧ y + 1 < Y (σ k)) ∨ (Y (σ k) ≤ y ∧ y + 1 < Y k)) : Wn T σ X Y c (y + 1) = Wn T σ X Y c y := by
  have h2 := Wn_y N c (y + 1)
  rw [show y + 1 - 1 = y by omega] at h2
  rw [sumTo_zero (f := Hd σ X Y c (y + 1)) T (fun j hj => ?_)] at h2
  · omega
  · refine Classical.byContradiction fun h => ?_
    obtain ⟨e, hx⟩ := hd_ne h
    have e2 : Y j = y + 1 := by rcases N.side j hj with h | h <;> omega
    rcases N.free j k hj hk (X k) (y + 1) ⟨by omega, by omega, by omega, by omega⟩ ⟨by omega, by omega, by omega, by omega⟩ with h | h | h
    · subst h; omega
    · subst h; omega
    · rw [h] at h1 hv hc; rw [h] at *; omega
/-- Along a level side nothing changes. -/
theorem Net.flat_eq (N : Net T σ X Y) {k : Nat} (hk : k < T) (hh : Y (σ k) = Y k) {c x : Int} (hc : c = Y k - 1 ∨ c = Y k) (h1 : (X k ≤ x - 1 ∧ x < X (σ k)) ∨ (X (σ k) ≤ x - 1 ∧ x < X k)) : Wn T σ X Y (x - 1) c = Wn T σ X Y x c := by
  have h2 := Wn_x (T := T) (σ := σ) (X := X) (Y := Y) x c
  rw [sumTo_zero (f := Vd σ X Y x c) T (fun j hj => ?_)] at h2
  · omega
  · refine Classical.byContradiction fun h => ?_
    obtain ⟨e, hx⟩ := vd_ne h
    have e2 : X (σ j) = x := by rcases N.side j hj with h | h <;> omega
    rcases N.free j k hj hk x (Y k) ⟨by omega, by omega, by omega, by omega⟩ ⟨by omega, by omega, by omega, by omega⟩ with h | h | h
    · subst h; omega
    · subst h; omega
    · rw [h] at h1; omega
theorem Net.up_const (N : Net T σ X Y) {k : Nat} (hk : k < T) (hv : X (σ k) = X k) {c lo : Int} (hc : c = X k - 1 ∨ c = X k) (hlo : lo = Y k ∨ lo = Y (σ k)) (hm : lo ≤ Y k ∧ lo ≤ Y (σ k)) : ∀ d : Nat, (lo + d < Y k ∨ lo + d < Y (σ k)) → Wn T σ X Y c (lo + d) = Wn T σ X Y c lo
  | 0, _ => by rw [show lo + ((0 : Nat) : Int) = lo by omega]
  | d + 1, h => by
    rw [show lo + ((d + 1 : Nat) : Int) = lo + d + 1 by omega, N.up_eq hk hv hc (by omega)]
    exact N.up_const hk hv hc hlo hm d (by omega)
theorem Net.flat_const (N : Net T σ X Y) {k : Nat} (hk : k < T) (hh : Y (σ k) = Y k) {c lo : Int} (hc : c = Y k - 1 ∨ c = Y k) (hlo : lo = X k ∨ lo = X (σ k)) (hm : lo ≤ X k ∧ lo ≤ X (σ k)) : ∀ d : Nat, (lo + d < X k ∨ lo + d < X (σ k)) → Wn T σ X Y (lo + d) c = Wn T σ X Y lo c
  | 0, _ => by rw [show lo + ((0 : Nat) : Int) = lo by omega]
  | d + 1, h => by
    have h1 := N.flat_eq hk hh hc (x := lo + ((d + 1 : Nat) : Int)) (by omega)
    rw [← h1, show lo + ((d + 1 : Nat) : Int) - 1 = lo + d by omega]
    exact N.flat_const hk hh hc hlo hm d (by omega)
theorem Net.over_up (N : Net T σ X Y) {k : Nat} (hk : k < T) (hv : X (σ k) = X k) {y : Int} (h1 : (Y k ≤ y ∧ y < Y (σ k)) ∨ (Y (σ k) ≤ y ∧ y < Y k)) : Wn T σ X Y (X k - 1) y - Wn T σ X Y (X k) y = Vd σ X Y (X k) y k := by
  rw [Wn_x]
  refine sumTo_one T hk fun j hj hne => ?_
  refine Classical.byContradiction fun h => ?_
  obtain ⟨e, hx⟩ := vd_ne h
  have e2 : X (σ j) = X j := by rcases N.side j hj with h | h <;> omega
  rcases N.free j k hj hk (X k) y ⟨by omega, by omega, by omega, by omega⟩ ⟨by omega, by omega, by omega, by omega⟩ with h | h | h
  · exact hne h
  · have := (N.alt k hk).1 hv
    rw [← h] at this; omega
  · have := (N.alt j hj).1 e2
    rw [← h] at this; omega
theorem Net.over_flat (N : Net T σ X Y) {k : Nat} (hk : k < T) (hh : Y (σ k) = Y k) {x : Int} (h1 : (X k ≤ x ∧ x < X (σ k)) ∨ (X (σ k) ≤ x ∧ x < X k)) : Wn T σ X Y x (Y k) - Wn T σ X Y x (Y k - 1) = Hd σ X Y x (Y k) k := by
  rw [Wn_y N]
  refine sumTo_one T hk fun j hj hne => ?_
  refine Classical.byContradiction fun h => ?_
  obtain ⟨e, hx⟩ := hd_ne h
  have e2 : Y (σ j) = Y j := by rcases N.side j hj with h | h <;> omega
  rcases N.free j k hj hk x (Y k) ⟨by omega, by omega, by omega, by omega⟩ ⟨by omega, by omega, by omega, by omega⟩ with h | h | h
  · exact hne h
  · have := N.alt k hk
    rw [← h] at this h1
    have h9 := this.2 e2
    omega
  · have := N.alt j hj
    rw [← h] at this hx
    have h9 := this.2 hh
    omega
theorem Net.lv_ex (N : Net T σ X Y) {k : Nat} (hk : k < T) : ∃ L, Lv T σ X Y k L := by
  rcases N.side k hk with ⟨hv, hd⟩ | ⟨hh, hd⟩
  · have con : ∀ c, (c = X k - 1 ∨ c = X k) → ∀ lo, (lo = Y k ∨ lo = Y (σ k)) → lo ≤ Y k → lo ≤ Y (σ k) → ∀ y, lo ≤ y → (y < Y k ∨ y < Y (σ k)) → Wn T σ X Y c y = Wn T σ X Y c lo := fun c hc lo hlo m1 m2 y h1 h2 => by
      have := N.up_const hk hv hc hlo ⟨m1, m2⟩ (y - lo).toNat (by omega)
      rw [show lo + ((y - lo).toNat : Int) = y by omega] at this
      exact this
    by_cases hu : Y k < Y (σ k)
    · refine ⟨Wn T σ X Y (X k - 1) (Y k), fun x y h => ?_, fun x y h => ?_⟩
      · unfold LC at h
        obtain ⟨rfl, h1, h2⟩ : x = X k - 1 ∧ Y k ≤ y ∧ y < Y (σ k) := by omega
        exact con _ (.inl rfl) _ (.inl rfl) (Int.le_refl _) (by omega) y h1 (.inr h2)
      · unfold RC at h
        obtain ⟨rfl, h1, h2⟩ : x = X k ∧ Y k ≤ y ∧ y < Y (σ k) := by omega
        have e1 := con _ (.inl rfl) _ (.inl rfl) (Int.le_refl _) (by omega) y h1 (.inr h2)
        have e2 := N.over_up hk hv (.inl ⟨h1, h2⟩)
        rw [vd_up ⟨h1, h2⟩] at e2
        omega
    · refine ⟨Wn T σ X Y (X k) (Y (σ k)), fun x y h => ?_, fun x y h => ?_⟩
      · unfold LC at h
        obtain ⟨rfl, h1, h2⟩ : x = X k ∧ Y (σ k) ≤ y ∧ y < Y k := by omega
        exact con _ (.inr rfl) _ (.inr rfl) (by omega) (Int.le_refl _) y h1 (.inl h2)
      · unfold RC at h
        obtain ⟨rfl, h1, h2⟩ : x = X k - 1 ∧ Y (σ k) ≤ y ∧ y < Y k := by omega
        have e1 := con _ (.inr rfl) _ (.inr rfl) (by omega) (Int.le_refl _) y h1 (.inl h2)
        have e2 := N.over_up hk hv (.inr ⟨h1, h2⟩)
        rw [vd_down ⟨h1, h2⟩] at e2
        omega
  · have con : ∀ c, (c = Y k - 1 ∨ c = Y k) → ∀ lo, (lo = X k ∨ lo = X (σ k)) → lo ≤ X k → lo ≤ X (σ k) → ∀ x, lo ≤ x → (x < X k ∨ x < X (σ k)) → Wn T σ X Y x c = Wn T σ X Y lo c := fun c hc lo hlo m1 m2 x h1 h2 => by
      have := N.flat_const hk hh hc hlo ⟨m1, m2⟩ (x - lo).toNat (by omega)
      rw [show lo + ((x - lo).toNat : Int) = x by omega] at this
      exact this
    by_cases hu : X k < X (σ k)
    · refine ⟨Wn T σ X Y (X k) (Y k), fun x y h => ?_, fun x y h => ?_⟩
      · unfold LC at h
        obtain ⟨rfl, h1, h2⟩ : y = Y k ∧ X k ≤ x ∧ x < X (σ k) := by omega
        exact con _ (.inr rfl) _ (.inl rfl) (Int.le_refl _) (by omega) x h1 (.inr h2)
      · unfold RC at h
        obtain ⟨rfl, h1, h2⟩ : y = Y k - 1 ∧ X k ≤ x ∧ x < X (σ k) := by omega
        have e1 := con _ (.inr rfl) _ (.inl rfl) (Int.le_refl _) (by omega) x h1 (.inr h2)
        have e2 := N.over_flat hk hh (.inl ⟨h1, h2⟩)
        rw [hd_east hh ⟨h1, h2⟩] at e2
        omega
    · refine ⟨Wn T σ X Y (X (σ k)) (Y k - 1), fun x y h => ?_, fun x y h => ?_⟩
      · unfold LC at h
        obtain ⟨rfl, h1, h2⟩ : y = Y k - 1 ∧ X (σ k) ≤ x ∧ x < X k := by omega
        exact con _ (.inl rfl) _ (.inr rfl) (by omega) (Int.le_refl _) x h1 (.inl h2)
      · unfold RC at h
        obtain ⟨rfl, h1, h2⟩ : y = Y k ∧ X (σ k) ≤ x ∧ x < X k := by omega
        have e1 := con _ (.inl rfl) _ (.inr rfl) (by omega) (Int.le_refl _) x h1 (.inl h2)
        have e2 := N.over_flat hk hh (.inr ⟨h1, h2⟩)
        rw [hd_west hh ⟨h1, h2⟩] at e2
        omega
/-- A side and the one behind it have a cell in common, on the left of both or on the right of both. -/
theorem Net.share (N : Net T σ X Y) {k : Nat} (hk : k < T) : ∃ x y, (LC σ X Y k x y ∧ LC σ X Y (σ k) x y) ∨ (RC σ X Y k x y ∧ RC σ X Y (σ k) x y) := by
  have h1 := N.side k hk
  have h2 := N.side (σ k) (N.lt k hk)
  have h3 := N.alt k hk
  unfold LC RC
  generalize σ (σ k) = k2 at *
  generalize σ k = k1 at *
  by_cases a : Y k < Y k1
  · by_cases b : X k1 < X k2
    · exact ⟨X k1, Y k1 - 1, .inr ⟨by omega, by omega⟩⟩
    · exact ⟨X k1 - 1, Y k1 - 1, .inl ⟨by omega, by omega⟩⟩
  by_cases a2 : Y k1 < Y k
  · by_cases b : X k1 < X k2
    · exact ⟨X k1, Y k1, .inl ⟨by omega, by omega⟩⟩
    · exact ⟨X k1 - 1, Y k1, .inr ⟨by omega, by omega⟩⟩
  by_cases a3 : X k < X k1
  · by_cases b : Y k1 < Y k2
    · exact ⟨X k1 - 1, Y k1, .inl ⟨by omega, by omega⟩⟩
    · exact ⟨X k1 - 1, Y k1 - 1, .inr ⟨by omega, by omega⟩⟩
  · by_cases b : Y k1 < Y k2
    · exact ⟨X k1, Y k1, .inr ⟨by omega, by omega⟩⟩
    · exact ⟨X k1, Y k1 - 1, .inl ⟨by omega, by omega⟩⟩
theorem Net.lv_next (N : Net T σ X Y) {k : Nat} (hk : k < T) {L : Int} (h : Lv T σ X Y k L) : Lv T σ X Y (σ k) L := by
  obtain ⟨L', h'⟩ := N.lv_ex (N.lt k hk)
  obtain ⟨x, y, ⟨h1, h2⟩ | ⟨h1, h2⟩⟩ := N.share hk
  · have e1 := h.1 x y h1
    have e2 := h'.1 x y h2
    rw [show L = L' by omega]; exact h'
  · have e1 := h.2 x y h1
    have e2 := h'.2 x y h2
    rw [show L = L' by omega]; exact h'
/-- Nothing is beyond the greatest corner. -/
theorem Wn_right {x : Int} (h : ∀ k, k < T → X k ≤ x) (y : Int) : Wn T σ X Y x y = 0 := sumTo_zero T fun k hk => by rw [ind_le (h k hk), Int.zero_mul]
theorem vd_cell {x y : Int} {j : Nat} (h : Vd σ X Y x y j ≠ 0) : (LC σ X Y j (x - 1) y ∧ RC σ X Y j x y) ∨ (RC σ X Y j (x - 1) y ∧ LC σ X Y j x y) := by
  obtain ⟨e, hx⟩ := vd_ne h
  rcases hx with ⟨h1, h2⟩ | ⟨h1, h2⟩
  · exact .inl ⟨.inl ⟨by omega, by omega, h1, h2⟩, .inl ⟨by omega, by omega, h1, h2⟩⟩
  · exact .inr ⟨.inr (.inl ⟨by omega, by omega, h1, h2⟩), .inr (.inl ⟨by omega, by omega, h1, h2⟩)⟩
/-- What a cell's number can be. -/
theorem Net.ray (N : Net T σ X Y) {M : Int} (hM : ∀ k, k < T → X k ≤ M) (y : Int) : ∀ d : Nat, Wn T σ X Y (M - d) y = 0 ∨ ∃ k L, k < T ∧ Lv T σ X Y k L ∧ (Wn T σ X Y (M - d) y = L ∨ Wn T σ X Y (M - d) y = L - 1)
  | 0 => .inl (Wn_right (fun k hk => by have := hM k hk; omega) y)
  | d + 1 => by
    have h1 := Wn_x (T := T) (σ := σ) (X := X) (Y := Y) (M - d) y
    rw [show M - ((d + 1 : Nat) : Int) = M - d - 1 by omega]
    by_cases h : ∃ j, j < T ∧ Vd σ X Y (M - d) y j ≠ 0
    · obtain ⟨j, hj, h⟩ := h
      obtain ⟨L, hL⟩ := N.lv_ex hj
      refine .inr ⟨j, L, hj, hL, ?_⟩
      rcases vd_cell h with ⟨h, _⟩ | ⟨h, _⟩
      · exact .inl (hL.1 _ _ h)
      · exact .inr (hL.2 _ _ h)
    · rw [sumTo_zero (f := Vd σ X Y (M - d) y) T (fun j hj => Classical.byContradiction fun e => h ⟨j, hj, e⟩)] at h1
      rw [show Wn T σ X Y (M - d - 1) y = Wn T σ X Y (M - d) y by omega]
      exact N.ray hM y d
theorem Net.values (N : Net T σ X Y) (x y : Int) : Wn T σ X Y x y = 0 ∨ ∃ k L, k < T ∧ Lv T σ X Y k L ∧ (Wn T σ X Y x y = L ∨ Wn T σ X Y x y = L - 1) := by
  have bound : ∀ n, ∃ M : Int, ∀ k, k < n → X k ≤ M := fun n => by
    induction n with
    | zero => exact ⟨0, fun k hk => absurd hk (Nat.not_lt_zero _)⟩
    | succ n ih =>
      obtain ⟨M, hM⟩ := ih
      refine ⟨if M < X n then X n else M, fun k hk => ?_⟩
      by_cases e : k = n
      · subst e; split <;> omega
      · have := hM k (by omega); split <;> omega
  obtain ⟨M, hM⟩ := bound T
  by_cases h : x ≤ M
  · have := N.ray hM y (M - x).toNat
    rw [show M - ((M - x).toNat : Int) = x by omega] at this
    exact this
  · exact .inl (Wn_right (fun k hk => by have := hM k hk; omega) y)
/-- From the right to the left: the first side met has nothing on its right. -/
theorem Net.first (N : Net T σ X Y) {M : Int} (hM : ∀ k, k < T → X k ≤ M) (y : Int) : ∀ d : Nat, (∀ x, M - d ≤ x → Wn T σ X Y x y = 0) ∨ ∃ k x, k < T ∧ (∀ x', x ≤ x' → Wn T σ X Y x' y = 0) ∧ ((LC σ X Y k (x - 1) y ∧ RC σ X Y k x y) ∨ (RC σ X Y k (x - 1) y ∧ LC σ X Y k x y))
  | 0 => .inl fun x hx => Wn_right (fun k hk => by have := hM k hk; omega) y
  | d + 1 => by
    rcases N.first hM y d with h0 | h0
    · by_cases h : ∃ j, j < T ∧ Vd σ X Y (M - d) y j ≠ 0
      · obtain ⟨j, hj, h⟩ := h
        exact .inr ⟨j, M - d, hj, h0, vd_cell h⟩
      · left
        intro x hx
        have h1 := Wn_x (T := T) (σ := σ) (X := X) (Y := Y) (M - d) y
        rw [sumTo_zero (f := Vd σ X Y (M - d) y) T (fun j hj => Classical.byContradiction fun e => h ⟨j, hj, e⟩)] at h1
        have h2 := h0 (M - d) (Int.le_refl _)
        by_cases e : x = M - d - 1
        · subst e; omega
        · exact h0 x (by omega)
    · exact .inr h0
/-- Nothing lies outside of the corners' range. -/
theorem Net.range (N : Net T σ X Y) {M : Int} (hX : ∀ k, k < T → 0 ≤ X k ∧ X k ≤ M) (hY : ∀ k, k < T → 0 ≤ Y k ∧ Y k ≤ M) {x y : Int} (h : Wn T σ X Y x y ≠ 0) : (0 ≤ x ∧ x < M) ∧ 0 ≤ y ∧ y < M := by
  refine Classical.byContradiction fun hn => h ?_
  by_cases h1 : M ≤ x
  · exact Wn_right (fun k hk => by have := hX k hk; omega) y
  by_cases h2 : x < 0
  · unfold Wn
    rw [sumTo_congr (g := fun k => ind (Y (σ k)) y - ind (Y k) y) T (fun k hk => by rw [ind_gt (show X k > x by have := hX k hk; omega), Int.one_mul]), sumTo_sub, N.sum (fun k => ind (Y k) y)]; omega
  by_cases h3 : M ≤ y
  · exact sumTo_zero T fun k hk => by rw [ind_le (show Y k ≤ y by have := hY k hk; omega), ind_le (show Y (σ k) ≤ y by have := hY _ (N.lt k hk); omega)]; simp
  by_cases h4 : y < 0
  · exact sumTo_zero T fun k hk => by rw [ind_gt (show Y k > y by have := hY k hk; omega), ind_gt (show Y (σ k) > y by have := hY _ (N.lt k hk); omega)]; simp
  omega
/-- Twice the area, by cells. -/
theorem Net.area (N : Net T σ X Y) {M : Nat} (hX : ∀ k, k < T → 0 ≤ X k ∧ X k ≤ M) (hY : ∀ k, k < T → 0 ≤ Y k ∧ Y k ≤ M) :
    sumTo (fun k => X k * Y (σ k) - Y k * X (σ k)) T = 2 * sumTo (fun x => sumTo (fun y => Wn T σ X Y x y) M) M := by
  have h1 : sumTo (fun k => X k * (Y (σ k) - Y k)) T = sumTo (fun x => sumTo (fun y => Wn T σ X Y x y) M) M := by
    unfold Wn
    rw [sumTo_congr (g := fun k => sumTo (fun x : Nat => sumTo (fun y : Nat => ind (X k) x * (ind (Y (σ k)) y - ind (Y k) y)) M) M) T fun k hk => ?_]
    · rw [sumTo_swap]
      refine sumTo_congr M fun x _ => ?_
      rw [sumTo_swap]
    · have e1 := ind_total (hX k hk).1 (hX k hk).2
      have e2 := ind_total (hY k hk).1 (hY k hk).2
      have e3 := ind_total (hY _ (N.lt k hk)).1 (hY _ (N.lt k hk)).2
      rw [sumTo_congr (g := fun x : Nat => (Y (σ k) - Y k) * ind (X k) x) M fun x _ => ?_]
      · rw [sumTo_mul, e1, Int.mul_comm]
      · show sumTo (fun y : Nat => ind (X k) x * (ind (Y (σ k)) y - ind (Y k) y)) M = _
        rw [sumTo_mul, sumTo_sub, e2, e3, Int.mul_comm]
  rw [← h1, ← sumTo_mul]
  have h2 := N.sum fun k => X k * Y k
  have h3 : sumTo (fun k => X k * Y (σ k) - Y k * X (σ k) - 2 * (X k * (Y (σ k) - Y k))) T = sumTo (fun k => X k * Y k - X (σ k) * Y (σ k)) T := sumTo_congr T fun k hk => by
    rcases N.side k hk with ⟨e, _⟩ | ⟨e, _⟩
    · rw [e, Int.mul_sub, Int.mul_comm (Y k) (X k)]; omega
    · rw [e, Int.mul_sub, Int.mul_comm (Y k) (X (σ k))]; omega
  rw [sumTo_sub, sumTo_sub (fun k => X k * Y k), h2] at h3
  omega
end
/-- One closed line. -/
theorem ring_all {n : Nat} {P : Nat → Prop} (h0 : 0 < n → P 0) (h : ∀ k, k < n → P k → P (nxt n k)) : ∀ k, k < n → P k
  | 0, hk => h0 hk
  | k + 1, hk => by
    have := h k (by omega) (ring_all h0 h k (by omega))
    rw [show nxt n k = k + 1 from Nat.mod_eq_of_lt hk] at this
    exact this
section
variable {n : Nat} {X Y : Nat → Int}
/-- A closed line alone: an inside, whose number is 1 or -1; on the left of all sides it is L, which is 0 or 1. -/
theorem Net.one (N : Net n (nxt n) X Y) (h0 : 0 < n) : ∃ L : Int, (L = 0 ∨ L = 1) ∧ (∀ k, k < n → Lv n (nxt n) X Y k L) ∧ ∀ x y, Wn n (nxt n) X Y x y = 0 ∨ Wn n (nxt n) X Y x y = 2 * L - 1 := by
  obtain ⟨L, hL⟩ := N.lv_ex h0
  have all : ∀ k, k < n → Lv n (nxt n) X Y k L := ring_all (fun _ => hL) fun k hk h => N.lv_next hk h
  have hb : ∀ m, ∃ M : Int, ∀ k, k < m → X k ≤ M := fun m => by
    induction m with
    | zero => exact ⟨0, fun k hk => absurd hk (Nat.not_lt_zero _)⟩
    | succ m ih =>
      obtain ⟨M, hM⟩ := ih
      refine ⟨if M < X m then X m else M, fun k hk => ?_⟩
      by_cases e : k = m
      · subst e; split <;> omega
      · have := hM k (by omega); split <;> omega
  obtain ⟨M, hM⟩ := hb n
  have cell : ∃ x y, LC (nxt n) X Y 0 x y ∧ ∃ x' y', RC (nxt n) X Y 0 x' y' := by
    have := N.side 0 h0
    unfold LC RC
    by_cases a : Y 0 < Y (nxt n 0)
    · exact ⟨X 0 - 1, Y 0, by omega, X 0, Y 0, by omega⟩
    by_cases a2 : Y (nxt n 0) < Y 0
    · exact ⟨X 0, Y (nxt n 0), by omega, X 0 - 1, Y (nxt n 0), by omega⟩
    by_cases a3 : X 0 < X (nxt n 0)
    · exact ⟨X 0, Y 0, by omega, X 0, Y 0 - 1, by omega⟩
    · exact ⟨X (nxt n 0), Y 0 - 1, by omega, X (nxt n 0), Y 0, by omega⟩
  obtain ⟨x1, y1, c1, x2, y2, c2⟩ := cell
  have e1 := hL.1 _ _ c1
  have e2 := hL.2 _ _ c2
  have try1 : ∀ x y, Wn n (nxt n) X Y x y ≠ 0 → L = 0 ∨ L = 1 := fun x y h => by
    have hx : x < M := Classical.byContradiction fun e => h (Wn_right (fun k hk => by have := hM k hk; omega) y)
    rcases N.first hM y (M - x).toNat with h1 | ⟨k, x', hk, h1, h2⟩
    · exact absurd (h1 x (by omega)) h
    · have z := h1 x' (Int.le_refl _)
      rcases h2 with ⟨_, h2⟩ | ⟨_, h2⟩
      · have := (all k hk).2 _ _ h2; omega
      · have := (all k hk).1 _ _ h2; omega
  have h01 : L = 0 ∨ L = 1 := by
    by_cases e : L = 0
    · exact .inl e
    · exact try1 x1 y1 (by rw [e1]; exact e)
  refine ⟨L, h01, all, fun x y => ?_⟩
  rcases N.values x y with h | ⟨k, L', hk, h1, h2⟩
  · exact .inl h
  · have e : L' = L := by
      have a := all k hk
      have hc : ∃ x y, LC (nxt n) X Y k x y := by
        have := N.side k hk
        unfold LC
        by_cases a : Y k < Y (nxt n k)
        · exact ⟨X k - 1, Y k, by omega⟩
        by_cases a2 : Y (nxt n k) < Y k
        · exact ⟨X k, Y (nxt n k), by omega⟩
        by_cases a3 : X k < X (nxt n k)
        · exact ⟨X k, Y k, by omega⟩
        · exact ⟨X (nxt n k), Y k - 1, by omega⟩
      obtain ⟨x, y, hc⟩ := hc
      rw [← h1.1 _ _ hc, a.1 _ _ hc]
    omega
/-- Its area is not 0, and its sign tells on which side the inside lies. -/
theorem Net.area_one (N : Net n (nxt n) X Y) (h0 : 0 < n) {M : Nat} (hX : ∀ k, k < n → 0 ≤ X k ∧ X k ≤ M) (hY : ∀ k, k < n → 0 ≤ Y k ∧ Y k ≤ M) {L : Int} (h01 : L = 0 ∨ L = 1) (hL : ∀ k, k < n → Lv n (nxt n) X Y k L) (hv : ∀ x y, Wn n (nxt n) X Y x y = 0 ∨ Wn n (nxt n) X Y x y = 2 * L - 1) :
    0 < (2 * L - 1) * sumTo (fun k => X k * Y (nxt n k) - Y k * X (nxt n k)) n := by
  rw [N.area hX hY]
  have hsome : ∃ x y, Wn n (nxt n) X Y x y = 2 * L - 1 := by
    have := N.side 0 h0
    have h := hL 0 h0
    have cell : (∃ x y, LC (nxt n) X Y 0 x y) ∧ ∃ x' y', RC (nxt n) X Y 0 x' y' := by
      unfold LC RC
      by_cases a : Y 0 < Y (nxt n 0)
      · exact ⟨⟨X 0 - 1, Y 0, by omega⟩, X 0, Y 0, by omega⟩
      by_cases a2 : Y (nxt n 0) < Y 0
      · exact ⟨⟨X 0, Y (nxt n 0), by omega⟩, X 0 - 1, Y (nxt n 0), by omega⟩
      by_cases a3 : X 0 < X (nxt n 0)
      · exact ⟨⟨X 0, Y 0, by omega⟩, X 0, Y 0 - 1, by omega⟩
      · exact ⟨⟨X (nxt n 0), Y 0 - 1, by omega⟩, X (nxt n 0), Y 0, by omega⟩
    obtain ⟨⟨x1, y1, c1⟩, x2, y2, c2⟩ := cell
    have e1 := h.1 _ _ c1
    have e2 := h.2 _ _ c2
    rcases h01 with e | e
    · exact ⟨x2, y2, by omega⟩
    · exact ⟨x1, y1, by omega⟩
  obtain ⟨x, y, hxy⟩ := hsome
  obtain ⟨⟨r1, r2⟩, r3, r4⟩ := N.range hX hY (x := x) (y := y) (by rw [hxy]; omega)
  have sq : ∀ x y, 0 ≤ (2 * L - 1) * Wn n (nxt n) X Y x y := fun x y => by
    rcases hv x y with h | h <;> rw [h]
    · simp
    · rcases h01 with e | e <;> subst e <;> decide
  have pos : 0 < (2 * L - 1) * Wn n (nxt n) X Y x y := by
    rw [hxy]
    rcases h01 with e | e <;> subst e <;> decide
  have hp : 0 < sumTo (fun i => sumTo (fun j => (2 * L - 1) * Wn n (nxt n) X Y i j) M) M := by
    refine sumTo_pos (j := x.toNat) M (fun i _ => sumTo_nonneg M fun j _ => sq i j) (by omega) ?_
    refine sumTo_pos (j := y.toNat) M (fun j _ => sq _ j) (by omega) ?_
    show 0 < (2 * L - 1) * Wn n (nxt n) X Y (x.toNat : Nat) (y.toNat : Nat)
    rw [show ((x.toNat : Nat) : Int) = x by omega, show ((y.toNat : Nat) : Int) = y by omega]
    exact pos
  have e : sumTo (fun i : Nat => sumTo (fun j : Nat => (2 * L - 1) * Wn n (nxt n) X Y i j) M) M = (2 * L - 1) * sumTo (fun i : Nat => sumTo (fun j : Nat => Wn n (nxt n) X Y i j) M) M := by
    rw [← sumTo_mul]
    exact sumTo_congr M fun i _ => sumTo_mul _ _ M
  rw [e] at hp
  rcases h01 with e | e <;> subst e <;> omega
end
end Go.Proofs.YtnpfkmbcejgnjaaGreatDoor
namespace Go.Proofs.YtnpfkmbcejgnjaaGreatDoor
open Go Go.RowKit Go.Am
theorem at_ex_up {rs : List (List Sd)} {m : Nat} : ∀ k, k ≤ rs.length → m < tot (rs.take k) → ∃ r i, r < k ∧ i < (rg rs r).length ∧ m = tot (rs.take r) + i
  | 0, _, h => by simp [tot] at h
  | k + 1, hk, h => by
    rw [tot_take_succ (by omega)] at h
    by_cases e : m < tot (rs.take k)
    · obtain ⟨r, i, h1, h2, h3⟩ := at_ex_up k (by omega) e
      exact ⟨r, i, by omega, h2, h3⟩
    · exact ⟨k, m - tot (rs.take k), by omega, by omega, by omega⟩
theorem at_ex {rs : List (List Sd)} {m : Nat} (h : m < tot rs) : ∃ r i, r < rs.length ∧ i < (rg rs r).length ∧ m = tot (rs.take r) + i := at_ex_up rs.length (Nat.le_refl _) (by rw [List.take_length]; exact h)
theorem nxt_val {n k : Nat} (h : k < n) : nxt n k = if k + 1 = n then 0 else k + 1 := by
  unfold nxt
  split
  · rename_i e; rw [e, Nat.mod_self]
  · exact Nat.mod_eq_of_lt (by omega)
theorem prv_val {n k : Nat} (h : k < n) : prv n k = if k = 0 then n - 1 else k - 1 := by
  unfold prv
  split
  · rename_i e; subst e; rw [Nat.zero_add]; exact Nat.mod_eq_of_lt (by omega)
  · rw [show k + n - 1 = k - 1 + n by omega, Nat.add_mod_right]; exact Nat.mod_eq_of_lt (by omega)
theorem prv_nxt {n k : Nat} (h : k < n) : prv n (nxt n k) = k := by
  rw [prv_val (nxt_lt h), nxt_val h]; split <;> split <;> omega
theorem nb_iff {n r a b : Nat} (hb : b < a) (ha : a < n) : nbB n (r, a) (r, b) = true ↔ (a = nxt n b ∨ b = nxt n a) := by
  unfold nbB
  rw [nxt_val ha, nxt_val (show b < n by omega)]
  simp only [beq_self_eq_true, Bool.true_and, Bool.or_eq_true, beq_iff_eq]
  split <;> split <;> omega
/-- Two sides of a plan are neighbours, or the same. -/
def near (rs : List (List Sd)) (r i s k : Nat) : Prop := r = s ∧ (i = k ∨ i = nxt (rg rs r).length k ∨ k = nxt (rg rs r).length i)
theorem crs_iff (rs : List (List Sd)) : crs rs = false ↔ ∀ r i s k, r < rs.length → i < (rg rs r).length → s < rs.length → k < (rg rs s).length → ¬ near rs r i s k → meetB (bsd rs (r, i)) (esd rs (r, i)) (bsd rs (s, k)) (esd rs (s, k)) = false := by
  constructor
  · intro h r i s k hr hi hs hk hn
    by_cases e : r = s
    rotate_left
    · exact crs_apart h hr hi hs hk e
    subst e
    have one : ∀ {a b : Nat}, a < (rg rs r).length → b < a → ¬ (a = nxt (rg rs r).length b ∨ b = nxt (rg rs r).length a) → meetB (bsd rs (r, a)) (esd rs (r, a)) (bsd rs (r, b)) (esd rs (r, b)) = false := by
      intro a b ha hb hab
      have hj := tot_at hr ha
      have h2 : crossP rs (pl rs (tot (rs.take r) + a)) (pl rs (tot (rs.take r) + b)) = false := by
        cases he : crossP rs (pl rs (tot (rs.take r) + a)) (pl rs (tot (rs.take r) + b)) with
        | false => rfl
        | true =>
          have : crs rs = true := List.any_eq_true.2 ⟨_, List.mem_range.2 hj, List.any_eq_true.2 ⟨_, List.mem_range.2 (by omega), he⟩⟩
          rw [h] at this; cases this
      rw [pl_at hr ha, pl_at hr (by omega)] at h2
      unfold crossP at h2
      have h3 : nbB (rg rs r).length (r, a) (r, b) = false := Bool.eq_false_iff.2 fun e => hab ((nb_iff hb ha).1 e)
      rw [h3] at h2
      simpa using h2
    rcases Nat.lt_trichotomy i k with hlt | heq | hgt
    · rw [meet_comm]
      exact one hk hlt fun h => hn ⟨rfl, by omega⟩
    · exact absurd ⟨rfl, .inl heq⟩ hn
    · exact one hi hgt fun h => hn ⟨rfl, by omega⟩
  · intro h
    unfold crs
    refine any_range_false fun m hm => any_range_false fun j hj => ?_
    obtain ⟨r, i, hr, hi, rfl⟩ := at_ex hm
    obtain ⟨s, k, hs, hk, rfl⟩ := at_ex (show j < tot rs by omega)
    rw [pl_at hr hi, pl_at hs hk]
    unfold crossP
    cases hb : nbB (rg rs r).length (r, i) (s, k) with
    | true => rfl
    | false =>
      simp only [Bool.not_false, Bool.true_and]
      refine h r i s k hr hi hs hk fun hn => ?_
      obtain ⟨rfl, hn⟩ := hn
      have hik : k < i := by omega
      have := (nb_iff (r := r) hik hi).2 (by omega)
      rw [hb] at this; cases this
theorem meet_on {t u t' u' : Sd} {px py : Int} (h : meetB t u t' u' = false) (h1 : (t.x ≤ px ∨ u.x ≤ px) ∧ (px ≤ t.x ∨ px ≤ u.x) ∧ (t.y ≤ py ∨ u.y ≤ py) ∧ (py ≤ t.y ∨ py ≤ u.y))
    (h2 : (t'.x ≤ px ∨ u'.x ≤ px) ∧ (px ≤ t'.x ∨ px ≤ u'.x) ∧ (t'.y ≤ py ∨ u'.y ≤ py) ∧ (py ≤ t'.y ∨ py ≤ u'.y)) : False := by
  have e : meetB t u t' u' = true := by
    unfold meetB lox hix loy hiy
    simp only [Bool.and_eq_true, decide_eq_true_eq]
    refine ⟨⟨⟨?_, ?_⟩, ?_⟩, ?_⟩ <;> split <;> split <;> omega
  rw [h] at e; cases e
/-- A ring of a valid plan is a closed line. -/
theorem ring_net {rs : List (List Sd)} (hin : allR rs) (hs : ∀ l ∈ rs, shp l = true) (hc : crs rs = false) {r : Nat} (hr : r < rs.length) : Net (rg rs r).length (nxt (rg rs r).length) (fun k => (sd (rg rs r) k).x) (fun k => (sd (rg rs r) k).y) := by
  have hm : rg rs r ∈ rs := List.mem_of_getElem? (rg_get hr)
  refine ⟨fun k hk => nxt_lt hk, fun f => sumTo_nxt f _, fun k hk => ?_, fun k hk => ?_, fun j k hj hk px py h1 h2 => ?_⟩
  · have := (shp_side (hin _ hm) (hs _ hm) hk).1
    omega
  · have h1 := (shp_side (hin _ hm) (hs _ hm) hk).1
    have h2 := (shp_side (hin _ hm) (hs _ hm) (nxt_lt hk))
    rw [prv_nxt hk] at h2
    omega
  · refine Classical.byContradiction fun hn => ?_
    have h := (crs_iff rs).1 hc r j r k hr hj hr hk fun h => hn (by obtain ⟨_, h⟩ := h; omega)
    exact meet_on h h1 h2
/-- The inside of a ring: on the left of all its sides, or on the right of all. -/
theorem ring_one {rs : List (List Sd)} (hin : allR rs) (hs : ∀ l ∈ rs, shp l = true) (hc : crs rs = false) {r : Nat} (hr : r < rs.length) :
    ∃ L : Int, (L = 0 ∨ L = 1) ∧ (∀ k, k < (rg rs r).length → Lv (rg rs r).length (nxt (rg rs r).length) (fun k => (sd (rg rs r) k).x) (fun k => (sd (rg rs r) k).y) k L) ∧
      (∀ x y, Wn (rg rs r).length (nxt (rg rs r).length) (fun k => (sd (rg rs r) k).x) (fun k => (sd (rg rs r) k).y) x y = 0 ∨ Wn (rg rs r).length (nxt (rg rs r).length) (fun k => (sd (rg rs r) k).x) (fun k => (sd (rg rs r) k).y) x y = 2 * L - 1) ∧
      0 < (2 * L - 1) * sumTo (crossAt (rg rs r)) (rg rs r).length := by
  have hm : rg rs r ∈ rs := List.mem_of_getElem? (rg_get hr)
  have N := ring_net hin hs hc hr
  have h4 := shp_len (hs _ hm)
  obtain ⟨L, h01, hL, hv⟩ := N.one (by omega)
  refine ⟨L, h01, hL, hv, ?_⟩
  have hi : ∀ k, k < (rg rs r).length → inR (sd (rg rs r) k) := fun k hk => sd_inR (hin _ hm) hk
  exact N.area_one (M := 65536) (by omega) (fun k hk => ⟨(hi k hk).1, (hi k hk).2.1⟩) (fun k hk => ⟨(hi k hk).2.2.1, (hi k hk).2.2.2⟩) h01 hL hv
theorem area_ne {rs : List (List Sd)} (hin : allR rs) (hs : ∀ l ∈ rs, shp l = true) (hc : crs rs = false) {r : Nat} (hr : r < rs.length) : sumTo (crossAt (rg rs r)) (rg rs r).length ≠ 0 := by
  obtain ⟨L, _, _, _, h⟩ := ring_one hin hs hc hr
  intro e
  rw [e, Int.mul_zero] at h
  exact absurd h (by decide)
end Go.Proofs.YtnpfkmbcejgnjaaGreatDoor
namespace Go.Proofs.YtnpfkmbcejgnjaaGreatDoor
open Go Go.RowKit Go.Am
/-- The eighth in which a vector lies. -/
def cl (x y : Int) : Int := if y = 0 then (if x > 0 then 0 else 4) else if y > 0 then (if x > 0 then 1 else if x = 0 then 2 else 3) else (if x < 0 then 5 else if x = 0 then 6 else 7)
def tn (x y u v : Int) : Int := (cl u v - cl x y + 3) % 8 - 3
def sg (a : Int) : Int := if a > 0 then 1 else if a = 0 then 0 else -1
theorem cl_r {x : Int} (y : Int) (h : x > 0) : (cl x y = 1 ∧ sg y = 1) ∨ (cl x y = 0 ∧ sg y = 0) ∨ (cl x y = 7 ∧ sg y = -1) := by
  unfold cl sg
  rcases Int.lt_trichotomy y 0 with h1 | h1 | h1
  · rw [if_neg (by omega), if_neg (by omega), if_neg (by omega), if_neg (by omega), if_neg (by omega), if_neg (by omega)]; omega
  · rw [if_pos h1, if_pos h, if_neg (by omega), if_pos h1]; omega
  · rw [if_neg (by omega), if_pos h1, if_pos h, if_pos h1]; omega
theorem cl_l {x : Int} (y : Int) (h : x < 0) : (cl x y = 3 ∧ sg y = 1) ∨ (cl x y = 4 ∧ sg y = 0) ∨ (cl x y = 5 ∧ sg y = -1) := by
  unfold cl sg
  rcases Int.lt_trichotomy y 0 with h1 | h1 | h1
  · rw [if_neg (by omega), if_neg (by omega), if_pos h, if_neg (by omega), if_neg (by omega)]; omega
  · rw [if_pos h1, if_neg (by omega), if_neg (by omega), if_pos h1]; omega
  · rw [if_neg (by omega), if_pos h1, if_neg (by omega), if_neg (by omega), if_pos h1]; omega
theorem cl_u (x : Int) {y : Int} (h : y > 0) : (cl x y = 1 ∧ sg x = 1) ∨ (cl x y = 2 ∧ sg x = 0) ∨ (cl x y = 3 ∧ sg x = -1) := by
  unfold cl sg
  rw [if_neg (by omega), if_pos h]
  rcases Int.lt_trichotomy x 0 with h1 | h1 | h1
  · rw [if_neg (by omega), if_neg (by omega), if_neg (by omega), if_neg (by omega)]; omega
  · rw [if_neg (by omega), if_pos h1, if_neg (by omega), if_pos h1]; omega
  · rw [if_pos h1, if_pos h1]; omega
theorem cl_d (x : Int) {y : Int} (h : y < 0) : (cl x y = 7 ∧ sg x = 1) ∨ (cl x y = 6 ∧ sg x = 0) ∨ (cl x y = 5 ∧ sg x = -1) := by
  unfold cl sg
  rw [if_neg (by omega), if_neg (by omega)]
  rcases Int.lt_trichotomy x 0 with h1 | h1 | h1
  · rw [if_pos h1, if_neg (by omega), if_neg (by omega)]; omega
  · rw [if_neg (by omega), if_pos h1, if_neg (by omega), if_pos h1]; omega
  · rw [if_neg (by omega), if_neg (by omega), if_pos h1]; omega
theorem tn_r {x y u v : Int} (h : x > 0) (h' : u > 0) : tn x y u v = sg v - sg y := by
  have h1 := cl_r y h
  have h2 := cl_r v h'
  unfold tn; omega
theorem tn_l {x y u v : Int} (h : x < 0) (h' : u < 0) : tn x y u v = sg y - sg v := by
  have h1 := cl_l y h
  have h2 := cl_l v h'
  unfold tn; omega
theorem tn_u {x y u v : Int} (h : y > 0) (h' : v > 0) : tn x y u v = sg x - sg u := by
  have h1 := cl_u x h
  have h2 := cl_u u h'
  unfold tn; omega
theorem tn_d {x y u v : Int} (h : y < 0) (h' : v < 0) : tn x y u v = sg u - sg x := by
  have h1 := cl_d x h
  have h2 := cl_d u h'
  unfold tn; omega
/-- Four vectors on one side of an axis: both ways round are as long. -/
theorem tn_sq {a b c d e f g h : Int} (H : (a > 0 ∧ c > 0 ∧ e > 0 ∧ g > 0) ∨ (a < 0 ∧ c < 0 ∧ e < 0 ∧ g < 0) ∨ (b > 0 ∧ d > 0 ∧ f > 0 ∧ h > 0) ∨ (b < 0 ∧ d < 0 ∧ f < 0 ∧ h < 0)) : tn a b c d + tn c d g h = tn a b e f + tn e f g h := by
  rcases H with ⟨h1, h2, h3, h4⟩ | ⟨h1, h2, h3, h4⟩ | ⟨h1, h2, h3, h4⟩ | ⟨h1, h2, h3, h4⟩
  · rw [tn_r h1 h2, tn_r h2 h4, tn_r h1 h3, tn_r h3 h4]; omega
  · rw [tn_l h1 h2, tn_l h2 h4, tn_l h1 h3, tn_l h3 h4]; omega
  · rw [tn_u h1 h2, tn_u h2 h4, tn_u h1 h3, tn_u h3 h4]; omega
  · rw [tn_d h1 h2, tn_d h2 h4, tn_d h1 h3, tn_d h3 h4]; omega
theorem cl_e {a : Int} (h : a > 0) : cl a 0 = 0 := by unfold cl; rw [if_pos rfl, if_pos h]
theorem cl_w {a : Int} (h : a < 0) : cl a 0 = 4 := by unfold cl; rw [if_pos rfl, if_neg (by omega)]
theorem cl_n {b : Int} (h : b > 0) : cl 0 b = 2 := by unfold cl; rw [if_neg (by omega), if_pos h, if_neg (by omega), if_pos rfl]
theorem cl_s {b : Int} (h : b < 0) : cl 0 b = 6 := by unfold cl; rw [if_neg (by omega), if_neg (by omega), if_neg (by omega), if_pos rfl]
theorem cl_ne {a b : Int} (h : a > 0) (h' : b > 0) : cl a b = 1 := by unfold cl; rw [if_neg (by omega), if_pos h', if_pos h]
theorem cl_nw {a b : Int} (h : a < 0) (h' : b > 0) : cl a b = 3 := by unfold cl; rw [if_neg (by omega), if_pos h', if_neg (by omega), if_neg (by omega)]
theorem cl_sw {a b : Int} (h : a < 0) (h' : b < 0) : cl a b = 5 := by unfold cl; rw [if_neg (by omega), if_neg (by omega), if_pos h]
theorem cl_se {a b : Int} (h : a > 0) (h' : b < 0) : cl a b = 7 := by unfold cl; rw [if_neg (by omega), if_neg (by omega), if_neg (by omega), if_neg (by omega)]
/-- A corner between a level and an upright side. -/
theorem tn_hv {a b : Int} (ha : a ≠ 0) (hb : b ≠ 0) : tn a 0 0 b = tn a 0 a b + tn a b 0 b ∧ ((a > 0 ∧ b > 0) ∨ (a < 0 ∧ b < 0) → tn a 0 0 b = 2) ∧ ((a > 0 ∧ b < 0) ∨ (a < 0 ∧ b > 0) → tn a 0 0 b = -2) := by
  unfold tn
  rcases Int.lt_or_gt_of_ne ha with h | h <;> rcases Int.lt_or_gt_of_ne hb with h' | h'
  · rw [cl_w h, cl_s h', cl_sw h h']; omega
  · rw [cl_w h, cl_n h', cl_nw h h']; omega
  · rw [cl_e h, cl_s h', cl_se h h']; omega
  · rw [cl_e h, cl_n h', cl_ne h h']; omega
theorem tn_vh {a b : Int} (ha : a ≠ 0) (hb : b ≠ 0) : tn 0 b a 0 = tn 0 b a b + tn a b a 0 ∧ ((a > 0 ∧ b > 0) ∨ (a < 0 ∧ b < 0) → tn 0 b a 0 = -2) ∧ ((a > 0 ∧ b < 0) ∨ (a < 0 ∧ b > 0) → tn 0 b a 0 = 2) := by
  unfold tn
  rcases Int.lt_or_gt_of_ne ha with h | h <;> rcases Int.lt_or_gt_of_ne hb with h' | h'
  · rw [cl_w h, cl_s h', cl_sw h h']; omega
  · rw [cl_w h, cl_n h', cl_nw h h']; omega
  · rw [cl_e h, cl_s h', cl_se h h']; omega
  · rw [cl_e h, cl_n h', cl_ne h h']; omega
/-- A vector that points up, or to the right. -/
theorem cl_up {x y : Int} (h : y > 0 ∨ (y = 0 ∧ x > 0)) : 0 ≤ cl x y ∧ cl x y ≤ 3 ∧ cl (-x) (-y) = cl x y + 4 := by
  rcases h with h | ⟨h, h'⟩
  · rcases Int.lt_trichotomy x 0 with h1 | h1 | h1
    · rw [cl_nw h1 h, cl_se (by omega) (by omega)]; omega
    · subst h1; rw [cl_n h, show -(0 : Int) = 0 from rfl, cl_s (by omega)]; omega
    · rw [cl_ne h1 h, cl_sw (by omega) (by omega)]; omega
  · subst h; rw [cl_e h', show -(0 : Int) = 0 from rfl, cl_w (by omega)]; omega
/-- A closed line from its lowest corner on (of several the leftmost). -/
structure Walk (n : Nat) (A B : Nat → Int) : Prop where
  n4 : 4 ≤ n
  clA : A n = A 0
  clB : B n = B 0
  side : ∀ i, i < n → (A (i + 1) = A i ∧ B (i + 1) ≠ B i) ∨ (B (i + 1) = B i ∧ A (i + 1) ≠ A i)
  alt : ∀ i, i + 1 < n → (A (i + 1) = A i ↔ B (i + 2) = B (i + 1))
  last : A n = A (n - 1) ↔ B 1 = B 0
  free : ∀ i j, i < j → j < n → j ≠ i + 1 → ¬ (i = 0 ∧ j + 1 = n) →
    (A i < A j ∧ A i < A (j + 1) ∧ A (i + 1) < A j ∧ A (i + 1) < A (j + 1)) ∨ (A i > A j ∧ A i > A (j + 1) ∧ A (i + 1) > A j ∧ A (i + 1) > A (j + 1)) ∨
    (B i < B j ∧ B i < B (j + 1) ∧ B (i + 1) < B j ∧ B (i + 1) < B (j + 1)) ∨ (B i > B j ∧ B i > B (j + 1) ∧ B (i + 1) > B j ∧ B (i + 1) > B (j + 1))
  low : ∀ i, i ≤ n → B 0 < B i ∨ (B 0 = B i ∧ A 0 ≤ A i)
section
variable {n : Nat} {A B : Nat → Int}
def Rt (A B : Nat → Int) (i j : Nat) : Int := tn (A j - A i) (B j - B i) (A (j + 1) - A i) (B (j + 1) - B i)
def Ct (A B : Nat → Int) (i j : Nat) : Int := tn (A j - A i) (B j - B i) (A j - A (i + 1)) (B j - B (i + 1))
/-- The turn at corner i + 1. -/
def Tt (A B : Nat → Int) (i : Nat) : Int := tn (A (i + 1) - A i) (B (i + 1) - B i) (A (i + 2) - A (i + 1)) (B (i + 2) - B (i + 1))
theorem Walk.square (w : Walk n A B) {i j : Nat} (h1 : i < j) (h2 : j < n) (h3 : j ≠ i + 1) (h4 : ¬ (i = 0 ∧ j + 1 = n)) : Rt A B i j + Ct A B i (j + 1) = Ct A B i j + Rt A B (i + 1) j := by
  unfold Rt Ct
  refine tn_sq ?_
  rcases w.free i j h1 h2 h3 h4 with h | h | h | h <;> omega
theorem Walk.tri (w : Walk n A B) {i : Nat} (h : i + 1 < n) : Tt A B i = Rt A B i (i + 1) + Ct A B i (i + 2) := by
  have h1 := w.side i (by omega)
  have h2 := w.side (i + 1) h
  have h3 := w.alt i h
  unfold Tt Rt Ct
  rcases h1 with ⟨e, hd⟩ | ⟨e, hd⟩
  · have e2 := h3.1 e
    have hd2 : A (i + 2) ≠ A (i + 1) := by rcases h2 with h | h; exact absurd e2 h.2; exact h.2
    rw [show A (i + 1) - A i = 0 by omega, show B (i + 1 + 1) - B i = B (i + 1) - B i by rw [show i + 1 + 1 = i + 2 from rfl, e2], show A (i + 1 + 1) - A i = A (i + 2) - A (i + 1) by rw [e], e2, e, Int.sub_self]
    exact (tn_vh (by omega) (by omega)).1
  · have e2 : A (i + 2) = A (i + 1) := by
      rcases h2 with h | h
      · exact h.1
      · exact absurd (h3.2 h.1) hd
    have hd2 : B (i + 2) ≠ B (i + 1) := by rcases h2 with h | h; exact h.2; exact absurd (h3.2 h.1) hd
    rw [show B (i + 1) - B i = 0 by omega, show A (i + 1 + 1) - A i = A (i + 1) - A i by rw [show i + 1 + 1 = i + 2 from rfl, e2], show B (i + 1 + 1) - B i = B (i + 2) - B (i + 1) by rw [e], e2, e, Int.sub_self]
    exact (tn_hv (by omega) (by omega)).1
theorem Walk.row (w : Walk n A B) {i : Nat} : ∀ m, i + 2 + m ≤ n → (i = 0 → 2 + m < n) → sumTo (fun t => Rt A B i (i + 2 + t)) m + Ct A B i (i + 2 + m) = Ct A B i (i + 2) + sumTo (fun t => Rt A B (i + 1) (i + 2 + t)) m
  | 0, _, _ => by show (0 : Int) + Ct A B i (i + 2) = Ct A B i (i + 2) + 0; omega
  | m + 1, h, h0 => by
    have h1 := w.row (i := i) m (by omega) (by omega)
    have h2 := w.square (i := i) (j := i + 2 + m) (by omega) (by omega) (by omega) (by omega)
    show sumTo (fun t => Rt A B i (i + 2 + t)) m + Rt A B i (i + 2 + m) + Ct A B i (i + 2 + m + 1) = Ct A B i (i + 2) + (sumTo (fun t => Rt A B (i + 1) (i + 2 + t)) m + Rt A B (i + 1) (i + 2 + m))
    omega
def Ft (n : Nat) (A B : Nat → Int) (i : Nat) : Int := sumTo (fun t => Rt A B i (i + 1 + t)) (n - 1 - i)
theorem Walk.step (w : Walk n A B) {i : Nat} (h1 : 1 ≤ i) (h2 : i + 1 < n) : Ft n A B i + Ct A B i n = Tt A B i + Ft n A B (i + 1) := by
  have h := w.row (i := i) (n - 2 - i) (by omega) (by omega)
  rw [show i + 2 + (n - 2 - i) = n by omega] at h
  have e := sumTo_succ (fun t => Rt A B i (i + 1 + t)) (n - 2 - i)
  rw [w.tri h2]
  unfold Ft
  rw [show n - 1 - i = n - 2 - i + 1 by omega, ← e, show n - 1 - (i + 1) = n - 2 - i by omega,
    sumTo_congr (f := fun t => Rt A B i (i + 1 + (t + 1))) (g := fun t => Rt A B i (i + 2 + t)) (n - 2 - i) (fun t _ => by rw [show i + 1 + (t + 1) = i + 2 + t by omega])]
  show _ + Rt A B i (i + 1 + 0) + _ = Rt A B i (i + 1) + Ct A B i (i + 2) + sumTo (fun t => Rt A B (i + 1) (i + 2 + t)) (n - 2 - i)
  rw [show i + 1 + 0 = i + 1 from rfl]
  omega
theorem Walk.steps (w : Walk n A B) : ∀ k, k + 2 ≤ n → Ft n A B 1 + sumTo (fun s => Ct A B (1 + s) n) k = sumTo (fun s => Tt A B (1 + s)) k + Ft n A B (1 + k)
  | 0, _ => by show _ + (0 : Int) = 0 + _; rw [show 1 + 0 = 1 from rfl]; omega
  | k + 1, h => by
    have h1 := w.steps k (by omega)
    have h2 := w.step (i := 1 + k) (by omega) (by omega)
    show _ + (sumTo (fun s => Ct A B (1 + s) n) k + Ct A B (1 + k) n) = sumTo (fun s => Tt A B (1 + s)) k + Tt A B (1 + k) + Ft n A B (1 + k + 1)
    omega
/-- All turns but the one at the first corner, by the secants at the first corner. -/
theorem Walk.sum (w : Walk n A B) : sumTo (Tt A B) (n - 1) = sumTo (fun t => Rt A B 0 (1 + t)) (n - 2) + Ct A B 0 (n - 1) + Rt A B 1 (n - 1) + sumTo (fun s => Ct A B (1 + s) n) (n - 2) := by
  have n4 := w.n4
  have h0 := w.row (i := 0) (n - 3) (by omega) (by omega)
  rw [show 0 + 2 + (n - 3) = n - 1 by omega] at h0
  have h1 := w.steps (n - 2) (by omega)
  have e0 : Ft n A B (1 + (n - 2)) = 0 := by unfold Ft; rw [show n - 1 - (1 + (n - 2)) = 0 by omega]; rfl
  have e1 : Ft n A B 1 = sumTo (fun t => Rt A B 1 (2 + t)) (n - 3) + Rt A B 1 (n - 1) := by
    unfold Ft
    rw [show n - 1 - 1 = n - 3 + 1 by omega]
    show sumTo (fun t => Rt A B 1 (1 + 1 + t)) (n - 3) + Rt A B 1 (1 + 1 + (n - 3)) = _
    rw [show 1 + 1 + (n - 3) = n - 1 by omega]
  have e2 := sumTo_succ (fun t => Rt A B 0 (1 + t)) (n - 3)
  rw [show n - 3 + 1 = n - 2 by omega] at e2
  rw [sumTo_congr (f := fun t => Rt A B 0 (1 + (t + 1))) (g := fun t => Rt A B 0 (0 + 2 + t)) (n - 3) (fun t _ => by rw [show 1 + (t + 1) = 0 + 2 + t by omega])] at e2
  have e3 := sumTo_succ (Tt A B) (n - 2)
  rw [show n - 2 + 1 = n - 1 by omega, sumTo_congr (f := fun i => Tt A B (i + 1)) (g := fun s => Tt A B (1 + s)) (n - 2) (fun s _ => by rw [Nat.add_comm])] at e3
  have e4 := w.tri (i := 0) (by omega)
  have e5 : sumTo (fun t => Rt A B (0 + 1) (0 + 2 + t)) (n - 3) = sumTo (fun t => Rt A B 1 (2 + t)) (n - 3) := sumTo_congr _ fun t _ => by rw [show 0 + 2 + t = 2 + t by omega]
  rw [e5] at h0
  rw [show Rt A B 0 (1 + 0) = Rt A B 0 1 from rfl] at e2
  rw [show Rt A B 0 (0 + 1) = Rt A B 0 1 from rfl] at e4
  omega
theorem Walk.up (w : Walk n A B) {j : Nat} (h1 : 1 ≤ j) (h2 : j < n) : B j - B 0 > 0 ∨ (B j - B 0 = 0 ∧ A j - A 0 > 0) := by
  have n4 := w.n4
  have hl := w.low j (by omega)
  have hne : ¬ (A j = A 0 ∧ B j = B 0) := fun ⟨ha, hb⟩ => by
    by_cases e1 : j = 1
    · subst e1; have := w.side 0 (by omega); simp only [Nat.zero_add] at this; omega
    by_cases e2 : j + 1 = n
    · have := w.side j h2
      rw [e2, w.clA, w.clB] at this; omega
    · have := w.free 0 j (by omega) h2 (by omega) (by omega)
      omega
  omega
theorem Walk.head (w : Walk n A B) : ∀ k, k + 2 ≤ n → sumTo (fun t => Rt A B 0 (1 + t)) k = cl (A (1 + k) - A 0) (B (1 + k) - B 0) - cl (A 1 - A 0) (B 1 - B 0)
  | 0, _ => by show (0 : Int) = _; rw [show 1 + 0 = 1 from rfl]; omega
  | k + 1, h => by
    have h1 := w.head k (by omega)
    have c1 := cl_up (w.up (j := 1 + k) (by omega) (by omega))
    have c2 := cl_up (w.up (j := 1 + k + 1) (by omega) (by omega))
    show sumTo (fun t => Rt A B 0 (1 + t)) k + Rt A B 0 (1 + k) = cl (A (1 + k + 1) - A 0) (B (1 + k + 1) - B 0) - _
    rw [h1]
    unfold Rt tn
    omega
theorem Walk.tail (w : Walk n A B) : ∀ k, k + 2 ≤ n → sumTo (fun s => Ct A B (1 + s) n) k = cl (A (1 + k) - A 0) (B (1 + k) - B 0) - cl (A 1 - A 0) (B 1 - B 0)
  | 0, _ => by show (0 : Int) = _; rw [show 1 + 0 = 1 from rfl]; omega
  | k + 1, h => by
    have h1 := w.tail k (by omega)
    have c1 := cl_up (w.up (j := 1 + k) (by omega) (by omega))
    have c2 := cl_up (w.up (j := 1 + k + 1) (by omega) (by omega))
    show sumTo (fun s => Ct A B (1 + s) n) k + Ct A B (1 + k) n = cl (A (1 + k + 1) - A 0) (B (1 + k + 1) - B 0) - _
    rw [h1]
    unfold Ct tn
    rw [w.clA, w.clB, show A 0 - A (1 + k) = -(A (1 + k) - A 0) by omega, show B 0 - B (1 + k) = -(B (1 + k) - B 0) by omega, show A 0 - A (1 + k + 1) = -(A (1 + k + 1) - A 0) by omega, show B 0 - B (1 + k + 1) = -(B (1 + k + 1) - B 0) by omega]
    omega
/-- The turns add up to a whole one, to the left if the first side goes to the right, else to the right. -/
theorem Walk.total (w : Walk n A B) : sumTo (Tt A B) (n - 1) + tn (A 0 - A (n - 1)) (B 0 - B (n - 1)) (A 1 - A 0) (B 1 - B 0) = if B 1 = B 0 then 8 else -8 := by
  have n4 := w.n4
  have h1 := w.head (n - 2) (by omega)
  have h2 := w.tail (n - 2) (by omega)
  rw [show 1 + (n - 2) = n - 1 by omega] at h1 h2
  rw [w.sum, h1, h2]
  have s0 := w.side 0 (by omega)
  simp only [Nat.zero_add] at s0
  have sl := w.side (n - 1) (by omega)
  rw [show n - 1 + 1 = n by omega, w.clA, w.clB] at sl
  have hl := w.last
  rw [w.clA] at hl
  have u1 := w.up (j := 1) (by omega) (by omega)
  have u2 := w.up (j := n - 1) (by omega) (by omega)
  unfold Ct Rt
  rw [show n - 1 + 1 = n by omega, w.clA, w.clB, show (0 : Nat) + 1 = 1 from rfl]
  generalize A (n - 1) = a at *
  generalize B (n - 1) = b at *
  by_cases e : B 1 = B 0
  · rw [if_pos e]
    have ea : A 0 = a := hl.2 e
    have p1 : A 1 - A 0 > 0 := by omega
    have p2 : b - B 0 > 0 := by omega
    have k1 := tn_vh (a := A 0 - A 1) (b := b - B 0) (by omega) (by omega)
    have k2 := k1.2.2 (.inr ⟨by omega, p2⟩)
    have k3 := (tn_vh (a := A 1 - A 0) (b := B 0 - b) (by omega) (by omega)).2.2 (.inl ⟨p1, by omega⟩)
    rw [show a - A 0 = 0 by omega, show a - A 1 = A 0 - A 1 by omega, e, Int.sub_self, show A 0 - a = 0 by omega, cl_n p2, cl_e p1]
    rw [k1.1] at k2
    omega
  · rw [if_neg e]
    have ea : A 0 ≠ a := fun h => e (hl.1 h)
    have eb : B 0 = b := by omega
    have e1 : A 1 = A 0 := by omega
    have p1 : B 1 - B 0 > 0 := by omega
    have p2 : a - A 0 > 0 := by omega
    have k1 := tn_hv (a := a - A 0) (b := B 0 - B 1) (by omega) (by omega)
    have k2 := k1.2.2 (.inl ⟨p2, by omega⟩)
    have k3 := (tn_hv (a := A 0 - a) (b := B 1 - B 0) (by omega) (by omega)).2.2 (.inr ⟨by omega, p1⟩)
    rw [show b - B 0 = 0 by omega, show b - B 1 = B 0 - B 1 by omega, e1, Int.sub_self, show B 0 - b = 0 by omega, cl_e p2, cl_n p1]
    rw [k1.1] at k2
    omega
end
end Go.Proofs.YtnpfkmbcejgnjaaGreatDoor
namespace Go.Proofs.YtnpfkmbcejgnjaaGreatDoor
open Go Go.RowKit Go.Am
theorem md {n c i : Nat} (hc : c < n) (hi : i ≤ n) : (c + i) % n = if c + i < n then c + i else c + i - n := by
  split
  · exact Nat.mod_eq_of_lt (by omega)
  · rename_i h
    rw [Nat.mod_eq_sub_mod (by omega)]
    by_cases e : c + i - n < n
    · exact Nat.mod_eq_of_lt e
    · omega
theorem nxt_md (n c i : Nat) : nxt n ((c + i) % n) = (c + (i + 1)) % n := by
  unfold nxt
  rw [Nat.mod_add_mod, Nat.add_assoc]
theorem sumTo_from (g : Nat → Int) (n : Nat) : ∀ c, sumTo (fun i => g ((c + i) % n)) n = sumTo g n
  | 0 => sumTo_congr n fun i hi => by rw [Nat.zero_add, Nat.mod_eq_of_lt hi]
  | c + 1 => by
    rw [← sumTo_from g n c, ← sumTo_nxt (fun i => g ((c + i) % n)) n]
    refine sumTo_congr n fun i _ => ?_
    unfold nxt
    rw [Nat.add_mod_mod, show c + 1 + i = c + (i + 1) by omega]
theorem lowest (X Y : Nat → Int) : ∀ n, 0 < n → ∃ c, c < n ∧ ∀ k, k < n → Y c < Y k ∨ (Y c = Y k ∧ X c ≤ X k)
  | 0, h => absurd h (Nat.lt_irrefl _)
  | n + 1, _ => by
    by_cases h0 : n = 0
    · subst h0
      exact ⟨0, by omega, fun k hk => by rw [show k = 0 by omega]; omega⟩
    · obtain ⟨c, hc, h⟩ := lowest X Y n (by omega)
      by_cases hn : Y c < Y n ∨ (Y c = Y n ∧ X c ≤ X n)
      · refine ⟨c, by omega, fun k hk => ?_⟩
        by_cases e : k = n
        · subst e; exact hn
        · exact h k (by omega)
      · refine ⟨n, by omega, fun k hk => ?_⟩
        by_cases e : k = n
        · subst e; omega
        · have := h k (by omega); omega
theorem interval {a b c d : Int} (h1 : ¬ (a < c ∧ a < d ∧ b < c ∧ b < d)) (h2 : ¬ (a > c ∧ a > d ∧ b > c ∧ b > d)) : ∃ p, (a ≤ p ∨ b ≤ p) ∧ (p ≤ a ∨ p ≤ b) ∧ (c ≤ p ∨ d ≤ p) ∧ (p ≤ c ∨ p ≤ d) := by
  by_cases ha : (c ≤ a ∨ d ≤ a) ∧ (a ≤ c ∨ a ≤ d)
  · exact ⟨a, by omega, by omega, ha.1, ha.2⟩
  by_cases hb : (c ≤ b ∨ d ≤ b) ∧ (b ≤ c ∨ b ≤ d)
  · exact ⟨b, by omega, by omega, hb.1, hb.2⟩
  · exact ⟨c, by omega, by omega, by omega, by omega⟩
section
variable {n : Nat} {X Y : Nat → Int}
/-- A closed line, from its lowest corner on. -/
theorem Net.walk (N : Net n (nxt n) X Y) (n4 : 4 ≤ n) {c : Nat} (hc : c < n) (hlow : ∀ k, k < n → Y c < Y k ∨ (Y c = Y k ∧ X c ≤ X k)) : Walk n (fun i => X ((c + i) % n)) (fun i => Y ((c + i) % n)) := by
  have hlt : ∀ i, (c + i) % n < n := fun i => Nat.mod_lt _ (by omega)
  refine ⟨n4, by simp only [Nat.add_mod_right, Nat.add_zero], by simp only [Nat.add_mod_right, Nat.add_zero], fun i hi => ?_, fun i hi => ?_, ?_, fun i j hij hj h1 h2 => ?_, fun i hi => ?_⟩
  · have := N.side _ (hlt i)
    rw [nxt_md] at this; exact this
  · have := N.alt _ (hlt i)
    rw [nxt_md, nxt_md] at this; exact this
  · have := N.alt _ (hlt (n - 1))
    rw [nxt_md, nxt_md, show n - 1 + 1 = n by omega] at this
    have e : (c + (n + 1)) % n = (c + 1) % n := by rw [show c + (n + 1) = c + 1 + n by omega, Nat.add_mod_right]
    rw [e] at this
    simp only [Nat.add_mod_right, Nat.add_zero] at this ⊢
    exact this
  · have hn : ¬ ((c + i) % n = (c + j) % n ∨ (c + i) % n = nxt n ((c + j) % n) ∨ (c + j) % n = nxt n ((c + i) % n)) := by
      rw [nxt_md, nxt_md, md hc (show i ≤ n by omega), md hc (show j ≤ n by omega), md hc (show j + 1 ≤ n by omega), md hc (show i + 1 ≤ n by omega)]
      repeat' split
      all_goals omega
    have hf := N.free _ _ (hlt i) (hlt j)
    unfold On at hf
    rw [nxt_md, nxt_md] at hf
    show (X ((c + i) % n) < X ((c + j) % n) ∧ X ((c + i) % n) < X ((c + (j + 1)) % n) ∧ X ((c + (i + 1)) % n) < X ((c + j) % n) ∧ X ((c + (i + 1)) % n) < X ((c + (j + 1)) % n)) ∨ (X ((c + i) % n) > X ((c + j) % n) ∧ X ((c + i) % n) > X ((c + (j + 1)) % n) ∧ X ((c + (i + 1)) % n) > X ((c + j) % n) ∧ X ((c + (i + 1)) % n) > X ((c + (j + 1)) % n)) ∨
      (Y ((c + i) % n) < Y ((c + j) % n) ∧ Y ((c + i) % n) < Y ((c + (j + 1)) % n) ∧ Y ((c + (i + 1)) % n) < Y ((c + j) % n) ∧ Y ((c + (i + 1)) % n) < Y ((c + (j + 1)) % n)) ∨ (Y ((c + i) % n) > Y ((c + j) % n) ∧ Y ((c + i) % n) > Y ((c + (j + 1)) % n) ∧ Y ((c + (i + 1)) % n) > Y ((c + j) % n) ∧ Y ((c + (i + 1)) % n) > Y ((c + (j + 1)) % n))
    generalize X ((c + i) % n) = a at *
    generalize X ((c + (i + 1)) % n) = b at *
    generalize X ((c + j) % n) = a' at *
    generalize X ((c + (j + 1)) % n) = b' at *
    generalize Y ((c + i) % n) = e at *
    generalize Y ((c + (i + 1)) % n) = f at *
    generalize Y ((c + j) % n) = e' at *
    generalize Y ((c + (j + 1)) % n) = f' at *
    refine Classical.byContradiction fun h => ?_
    obtain ⟨p, p1, p2, p3, p4⟩ := interval (a := a) (b := b) (c := a') (d := b') (fun x => h (.inl x)) (fun x => h (.inr (.inl x)))
    obtain ⟨q, q1, q2, q3, q4⟩ := interval (a := e) (b := f) (c := e') (d := f') (fun x => h (.inr (.inr (.inl x)))) (fun x => h (.inr (.inr (.inr x))))
    have := hf p q ⟨p1, p2, q1, q2⟩ ⟨p3, p4, q3, q4⟩
    rw [nxt_md, nxt_md] at hn
    exact hn this
  · have := hlow _ (hlt i)
    simp only [Nat.add_zero]
    rw [Nat.mod_eq_of_lt hc]; exact this
/-- The turn at a corner. -/
def turnAt (n : Nat) (X Y : Nat → Int) (k : Nat) : Int := tn (X k - X (prv n k)) (Y k - Y (prv n k)) (X (nxt n k) - X k) (Y (nxt n k) - Y k)
theorem Net.turns (N : Net n (nxt n) X Y) (n4 : 4 ≤ n) : ∃ c, c < n ∧ (∀ k, k < n → Y c < Y k ∨ (Y c = Y k ∧ X c ≤ X k)) ∧ sumTo (turnAt n X Y) n = if Y (nxt n c) = Y c then 8 else -8 := by
  obtain ⟨c, hc, hlow⟩ := lowest X Y n (by omega)
  refine ⟨c, hc, hlow, ?_⟩
  have w := N.walk n4 hc hlow
  have h := w.total
  have e0 : (c + 0) % n = c := Nat.mod_eq_of_lt hc
  have e1 : (c + 1) % n = nxt n c := rfl
  have e2 : (c + (n - 1)) % n = prv n c := by
    unfold prv
    rw [show c + (n - 1) = c + n - 1 by omega]
  have et : ∀ i, i < n - 1 → Tt (fun i => X ((c + i) % n)) (fun i => Y ((c + i) % n)) i = turnAt n X Y ((c + (i + 1)) % n) := fun i _ => by
    have p1 : prv n ((c + (i + 1)) % n) = (c + i) % n := by rw [← nxt_md, prv_nxt (Nat.mod_lt _ (by omega))]
    unfold Tt turnAt
    rw [p1, nxt_md]
  rw [sumTo_congr (n - 1) et] at h
  simp only [e0, e1, e2] at h
  rw [← h, ← sumTo_from (turnAt n X Y) n c]
  have h3 := sumTo_succ (fun i => turnAt n X Y ((c + i) % n)) (n - 1)
  rw [show n - 1 + 1 = n by omega] at h3
  rw [← h3]
  congr 1
  simp only [e0]
  rfl
end
end Go.Proofs.YtnpfkmbcejgnjaaGreatDoor
namespace Go.Proofs.YtnpfkmbcejgnjaaGreatDoor
open Go Go.RowKit Go.Am
section
variable {T : Nat} {σ : Nat → Nat} {X Y : Nat → Int}
/-- Round a point that lies on no side nothing changes. -/
theorem Net.round (N : Net T σ X Y) {px py : Int} (h : ∀ k, k < T → ¬ On σ X Y k px py) {cx cy : Int} (hx : cx = px ∨ cx = px - 1) (hy : cy = py ∨ cy = py - 1) : Wn T σ X Y cx cy = Wn T σ X Y px py := by
  have v : ∀ y, (y = py ∨ y = py - 1) → Wn T σ X Y (px - 1) y = Wn T σ X Y px y := fun y hy => by
    have h2 := Wn_x (T := T) (σ := σ) (X := X) (Y := Y) px y
    rw [sumTo_zero (f := Vd σ X Y px y) T (fun j hj => ?_)] at h2
    · omega
    · refine Classical.byContradiction fun hn => ?_
      obtain ⟨e, hx⟩ := vd_ne hn
      have e2 : X (σ j) = X j := by rcases N.side j hj with h | h <;> omega
      exact h j hj ⟨by omega, by omega, by omega, by omega⟩
  have w : Wn T σ X Y px (py - 1) = Wn T σ X Y px py := by
    have h2 := Wn_y N px py
    rw [sumTo_zero (f := Hd σ X Y px py) T (fun j hj => ?_)] at h2
    · omega
    · refine Classical.byContradiction fun hn => ?_
      obtain ⟨e, hx⟩ := hd_ne hn
      have e2 : Y (σ j) = Y j := by rcases N.side j hj with h | h <;> omega
      exact h j hj ⟨by omega, by omega, by omega, by omega⟩
  have hc : Wn T σ X Y cx cy = Wn T σ X Y px cy := by
    rcases hx with e | e
    · rw [e]
    · rw [e]; exact v cy hy
  rw [hc]
  rcases hy with e | e
  · rw [e]
  · rw [e]; exact w
theorem Net.col (N : Net T σ X Y) {c lo : Int} : ∀ d : Nat, (∀ y, lo ≤ y → y ≤ lo + d → ∀ k, k < T → ¬ On σ X Y k c y) → Wn T σ X Y c (lo + d) = Wn T σ X Y c lo
  | 0, _ => by rw [show lo + ((0 : Nat) : Int) = lo by omega]
  | d + 1, h => by
    have h1 := N.round (h (lo + ((d + 1 : Nat) : Int)) (by omega) (by omega)) (cx := c) (cy := lo + d) (.inl rfl) (.inr (by omega))
    rw [← h1]
    exact N.col d fun y a b => h y a (by omega)
theorem Net.row (N : Net T σ X Y) {c lo : Int} : ∀ d : Nat, (∀ x, lo ≤ x → x ≤ lo + d → ∀ k, k < T → ¬ On σ X Y k x c) → Wn T σ X Y (lo + d) c = Wn T σ X Y lo c
  | 0, _ => by rw [show lo + ((0 : Nat) : Int) = lo by omega]
  | d + 1, h => by
    have h1 := N.round (h (lo + ((d + 1 : Nat) : Int)) (by omega) (by omega)) (cx := lo + d) (cy := c) (.inr (by omega)) (.inl rfl)
    rw [← h1]
    exact N.row d fun y a b => h y a (by omega)
theorem Net.col_to (N : Net T σ X Y) {c a b y : Int} (h : ∀ y, a ≤ y → y ≤ b → ∀ k, k < T → ¬ On σ X Y k c y) (h1 : a ≤ y) (h2 : y ≤ b) : Wn T σ X Y c y = Wn T σ X Y c a := by
  have := N.col (c := c) (lo := a) (y - a).toNat fun z p q => h z p (by omega)
  rwa [show a + ((y - a).toNat : Int) = y by omega] at this
theorem Net.row_to (N : Net T σ X Y) {c a b x : Int} (h : ∀ x, a ≤ x → x ≤ b → ∀ k, k < T → ¬ On σ X Y k x c) (h1 : a ≤ x) (h2 : x ≤ b) : Wn T σ X Y x c = Wn T σ X Y a c := by
  have := N.row (c := c) (lo := a) (x - a).toNat fun z p q => h z p (by omega)
  rwa [show a + ((x - a).toNat : Int) = x by omega] at this
/-- A cell beside a side is one of four round a point of the side. -/
theorem Net.near (N : Net T σ X Y) {k : Nat} (hk : k < T) {x y : Int} (h : LC σ X Y k x y ∨ RC σ X Y k x y) : ∃ px py, On σ X Y k px py ∧ (x = px ∨ x = px - 1) ∧ (y = py ∨ y = py - 1) := by
  have hs := N.side k hk
  unfold LC RC at h
  unfold On
  rcases hs with ⟨e, _⟩ | ⟨e, _⟩
  · exact ⟨X k, y, by omega, by omega, by omega⟩
  · exact ⟨x, Y k, by omega, by omega, by omega⟩
end
theorem chk_inR {rs : List (List Sd)} (h : chk rs = 0) : allR rs := fun l hl s hs => rgd_inR ((chk_parts h).1 l hl s hs)
/-- How often a ring goes round a cell. -/
def Wr (rs : List (List Sd)) (r : Nat) (x y : Int) : Int := Wn (rg rs r).length (nxt (rg rs r).length) (fun k => (sd (rg rs r) k).x) (fun k => (sd (rg rs r) k).y) x y
def OnR (rs : List (List Sd)) (r k : Nat) (px py : Int) : Prop := On (nxt (rg rs r).length) (fun k => (sd (rg rs r) k).x) (fun k => (sd (rg rs r) k).y) k px py
theorem apart {rs : List (List Sd)} (hc : crs rs = false) {r s i : Nat} (hr : r < rs.length) (hs : s < rs.length) (hne : r ≠ s) (hi : i < (rg rs r).length) {px py : Int} (h : OnR rs r i px py) : ∀ k, k < (rg rs s).length → ¬ OnR rs s k px py :=
  fun k hk h2 => meet_on ((crs_iff rs).1 hc r i s k hr hi hs hk fun h => hne h.1) h h2
theorem chk_net {rs : List (List Sd)} (hc : chk rs = 0) {r : Nat} (hr : r < rs.length) : Net (rg rs r).length (nxt (rg rs r).length) (fun k => (sd (rg rs r) k).x) (fun k => (sd (rg rs r) k).y) :=
  ring_net (chk_inR hc) (chk_parts hc).2.1 (chk_parts hc).2.2.1 hr
theorem Wr_along {rs : List (List Sd)} (hc : chk rs = 0) {r s k : Nat} (hr : r < rs.length) (hs : s < rs.length) (hne : r ≠ s) (hk : k < (rg rs r).length) {px py : Int} (h : OnR rs r k px py) : Wr rs s px py = Wr rs s (sd (rg rs r) k).x (sd (rg rs r) k).y := by
  have N := chk_net hc hr
  have M := chk_net hc hs
  have hap : ∀ px py, OnR rs r k px py → ∀ j, j < (rg rs s).length → ¬ OnR rs s j px py := fun px py h => apart (chk_parts hc).2.2.1 hr hs hne hk h
  have hside := N.side k hk
  unfold OnR On at h
  simp only at h
  unfold Wr
  rcases hside with ⟨e, hd⟩ | ⟨e, hd⟩
  · have ex : px = (sd (rg rs r) k).x := by omega
    subst ex
    by_cases hu : (sd (rg rs r) k).y < (sd (rg rs r) (nxt (rg rs r).length k)).y
    · refine M.col_to (a := (sd (rg rs r) k).y) (b := (sd (rg rs r) (nxt (rg rs r).length k)).y) (fun y a b => hap _ _ ?_) (by omega) (by omega)
      unfold OnR On
      simp only
      omega
    · have hh : ∀ y, (sd (rg rs r) (nxt (rg rs r).length k)).y ≤ y → y ≤ (sd (rg rs r) k).y → OnR rs r k (sd (rg rs r) k).x y := fun y a b => by
        unfold OnR On
        simp only
        omega
      rw [M.col_to (a := (sd (rg rs r) (nxt (rg rs r).length k)).y) (b := (sd (rg rs r) k).y) (fun y a b => hap _ _ (hh y a b)) (by omega) (by omega),
        M.col_to (y := (sd (rg rs r) k).y) (a := (sd (rg rs r) (nxt (rg rs r).length k)).y) (b := (sd (rg rs r) k).y) (fun y a b => hap _ _ (hh y a b)) (by omega) (by omega)]
  · have ex : py = (sd (rg rs r) k).y := by omega
    subst ex
    by_cases hu : (sd (rg rs r) k).x < (sd (rg rs r) (nxt (rg rs r).length k)).x
    · refine M.row_to (a := (sd (rg rs r) k).x) (b := (sd (rg rs r) (nxt (rg rs r).length k)).x) (fun y a b => hap _ _ ?_) (by omega) (by omega)
      unfold OnR On
      simp only
      omega
    · have hh : ∀ x, (sd (rg rs r) (nxt (rg rs r).length k)).x ≤ x → x ≤ (sd (rg rs r) k).x → OnR rs r k x (sd (rg rs r) k).y := fun y a b => by
        unfold OnR On
        simp only
        omega
      rw [M.row_to (a := (sd (rg rs r) (nxt (rg rs r).length k)).x) (b := (sd (rg rs r) k).x) (fun y a b => hap _ _ (hh y a b)) (by omega) (by omega),
        M.row_to (x := (sd (rg rs r) k).x) (a := (sd (rg rs r) (nxt (rg rs r).length k)).x) (b := (sd (rg rs r) k).x) (fun y a b => hap _ _ (hh y a b)) (by omega) (by omega)]
theorem Wr_ring {rs : List (List Sd)} (hc : chk rs = 0) {r s : Nat} (hr : r < rs.length) (hs : s < rs.length) (hne : r ≠ s) : ∀ k, k < (rg rs r).length → Wr rs s (sd (rg rs r) k).x (sd (rg rs r) k).y = Wr rs s (sd (rg rs r) 0).x (sd (rg rs r) 0).y :=
  ring_all (fun _ => rfl) fun k hk h => by
    rw [← h]
    refine Wr_along hc hr hs hne hk ?_
    unfold OnR On
    simp only
    omega
theorem ring_lv {rs : List (List Sd)} (hc : chk rs = 0) {r : Nat} (hr : r < rs.length) :
    (∀ k, k < (rg rs r).length → Lv (rg rs r).length (nxt (rg rs r).length) (fun k => (sd (rg rs r) k).x) (fun k => (sd (rg rs r) k).y) k (if r = 0 then 1 else 0)) ∧ ∀ x y, Wr rs r x y = 0 ∨ Wr rs r x y = if r = 0 then 1 else -1 := by
  obtain ⟨hg, hs, hx, hp, _⟩ := chk_parts hc
  obtain ⟨_, h24, _⟩ := chk_ne hc
  have hin := chk_inR hc
  have hm : rg rs r ∈ rs := List.mem_of_getElem? (rg_get hr)
  have hlen := len_le_tot hm
  obtain ⟨L, h01, hL, hv, ha⟩ := ring_one hin hs hx hr
  have h1 : placeRing rs r = true := List.all_eq_true.1 hp r (List.mem_range.2 hr)
  unfold placeRing at h1
  rw [(areaUp_eq (hin _ hm) _ (Nat.le_refl _) (by omega)).1] at h1
  have h5 := (Bool.and_eq_true_iff.1 h1).1
  rw [beq_iff_eq] at h5
  have h6 : sumTo (crossAt (rg rs r)) (rg rs r).length > 0 ↔ r = 0 := by
    rw [← decide_eq_true_iff (p := sumTo (crossAt (rg rs r)) (rg rs r).length > 0), h5, beq_iff_eq]
  have e : L = if r = 0 then 1 else 0 := by
    rcases h01 with e | e
    · subst e
      rw [if_neg (fun h => by have := h6.2 h; omega)]
    · subst e
      rw [if_pos (h6.1 (by omega))]
  refine ⟨fun k hk => by rw [← e]; exact hL k hk, fun x y => ?_⟩
  rcases hv x y with h | h
  · exact .inl h
  · right
    show Wn _ _ _ _ _ _ = _
    rw [h, e]
    split <;> rfl
theorem passB_iff {t u : Sd} (ht : inR t) (hu : inR u) {px py : Int} : passB t u px py = true ↔ u.x = t.x ∧ t.x > px ∧ ¬ (t.y > py ↔ u.y > py) := by
  unfold passB
  rw [w64_id (by have := ht.1; have := ht.2.1; have := hu.1; have := hu.2.1; omega) (by have := ht.1; have := ht.2.1; have := hu.1; have := hu.2.1; omega)]
  simp only [Bool.and_eq_true, beq_iff_eq, decide_eq_true_eq, Bool.not_eq_true', beq_eq_false_iff_ne, ne_eq, decide_eq_decide]
  constructor
  · rintro ⟨⟨h1, h2⟩, h3⟩
    exact ⟨by omega, h2, h3⟩
  · rintro ⟨h1, h2, h3⟩
    exact ⟨⟨by omega, h2⟩, h3⟩
theorem ins_par {l : List Sd} (hin : ∀ s ∈ l, inR s) (ax : axial l) (px py : Int) : ∀ n, n ≤ l.length → (sumTo (fun k => ind (sd l k).x px * (ind (sd l (nxt l.length k)).y py - ind (sd l k).y py)) n) % 2 = if insUp l px py n = true then 1 else 0
  | 0, _ => rfl
  | n + 1, h => by
    have ih := ins_par hin ax px py n (by omega)
    have hp := passB_iff (px := px) (py := py) (sd_inR hin (show n < l.length by omega)) (sd_inR hin (nxt_lt (show n < l.length by omega)))
    have ha := ax n (by omega)
    show (sumTo _ n + ind (sd l n).x px * (ind (sd l (nxt l.length n)).y py - ind (sd l n).y py)) % 2 = if (if passB (sd l n) (sd l (nxt l.length n)) px py = true then !insUp l px py n else insUp l px py n) = true then 1 else 0
    generalize sumTo _ n = A at *
    by_cases hb : passB (sd l n) (sd l (nxt l.length n)) px py = true
    · rw [if_pos hb]
      obtain ⟨h1, h2, h3⟩ := hp.1 hb
      rw [ind_gt h2]
      rcases ind_cases (sd l (nxt l.length n)).y py with ⟨e3, h4⟩ | ⟨e3, h4⟩ <;> rcases ind_cases (sd l n).y py with ⟨e5, h5⟩ | ⟨e5, h5⟩ <;> rw [e3, e5]
      · exact absurd ⟨fun _ => h4, fun _ => h5⟩ h3
      · cases hi : insUp l px py n <;> rw [hi] at ih <;> simp at ih ⊢ <;> omega
      · cases hi : insUp l px py n <;> rw [hi] at ih <;> simp at ih ⊢ <;> omega
      · exact absurd ⟨fun _ => by omega, fun _ => by omega⟩ h3
    · rw [if_neg hb]
      have e : ind (sd l n).x px * (ind (sd l (nxt l.length n)).y py - ind (sd l n).y py) = 0 := by
        rcases ind_cases (sd l n).x px with ⟨e3, h4⟩ | ⟨e3, h4⟩
        · rcases ha with hx | hy
          · have : (sd l n).y > py ↔ (sd l (nxt l.length n)).y > py := Classical.byContradiction fun hn => hb (hp.2 ⟨by omega, h4, hn⟩)
            unfold ind
            by_cases e : (sd l n).y > py
            · rw [if_pos e, if_pos (this.1 e)]; simp
            · rw [if_neg e, if_neg (fun h => e (this.2 h))]; simp
          · rw [show (sd l (nxt l.length n)).y = (sd l n).y by omega]; simp
        · rw [e3, Int.zero_mul]
      rw [e, Int.add_zero]; exact ih
/-- At the corners of a ring the others go round as they must. -/
theorem Wr_at {rs : List (List Sd)} (hc : chk rs = 0) {r s : Nat} (hr : r < rs.length) (hs : s < rs.length) (hne : r ≠ s) : ∀ k, k < (rg rs r).length → Wr rs s (sd (rg rs r) k).x (sd (rg rs r) k).y = if s = 0 then 1 else 0 := by
  obtain ⟨hg, hsh, hx, hp, _⟩ := chk_parts hc
  have hin := chk_inR hc
  have hole : ∀ r s, r < rs.length → s < rs.length → r ≠ s → r ≠ 0 → ∀ k, k < (rg rs r).length → Wr rs s (sd (rg rs r) k).x (sd (rg rs r) k).y = if s = 0 then 1 else 0 := fun r s hr hs hne h0 k hk => by
    rw [Wr_ring hc hr hs hne k hk]
    have h1 : placeRing rs r = true := List.all_eq_true.1 hp r (List.mem_range.2 hr)
    unfold placeRing at h1
    have h2 : placeK rs r s = true := List.all_eq_true.1 (Bool.and_eq_true_iff.1 h1).2 s (List.mem_range.2 hs)
    unfold placeK at h2
    rw [beq_false_of_ne (fun h => hne h.symm), beq_false_of_ne h0, Bool.false_or, Bool.false_or, beq_iff_eq] at h2
    have hm : rg rs s ∈ rs := List.mem_of_getElem? (rg_get hs)
    have h3 := ins_par (hin _ hm) (shp_axial (hin _ hm) (hsh _ hm)) (sd (rg rs r) 0).x (sd (rg rs r) 0).y _ (Nat.le_refl _)
    rw [h2] at h3
    change Wr rs s (sd (rg rs r) 0).x (sd (rg rs r) 0).y % 2 = _ at h3
    have h4 := (ring_lv hc hs).2 (sd (rg rs r) 0).x (sd (rg rs r) 0).y
    by_cases e : s = 0
    · subst e
      rw [if_pos rfl] at h4 ⊢
      rw [if_pos (show ((0 : Nat) == 0) = true from rfl)] at h3
      omega
    · rw [if_neg e] at h4 ⊢
      rw [if_neg (by simp [e])] at h3
      omega
  by_cases h0 : r = 0
  · subst h0
    intro k hk
    have hs0 : s ≠ 0 := fun h => hne h.symm
    rw [if_neg hs0]
    have hm : rg rs 0 ∈ rs := List.mem_of_getElem? (rg_get hr)
    have h4 := shp_len (hsh _ hm)
    obtain ⟨c, hcn, hlow⟩ := lowest (fun _ => 0) (fun k => -(sd (rg rs 0) k).x) (rg rs 0).length (by omega)
    have hmax : ∀ j, j < (rg rs 0).length → (sd (rg rs 0) j).x ≤ (sd (rg rs 0) c).x := fun j hj => by
      have := hlow j hj; omega
    rw [Wr_ring hc hr hs hne k hk, ← Wr_ring hc hr hs hne c hcn]
    refine Wn_right (fun j hj => ?_) _
    have h5 := hole s 0 hs hr hs0 hs0 j hj
    rw [if_pos rfl] at h5
    refine Classical.byContradiction fun hn => ?_
    have h6 : Wr rs 0 (sd (rg rs s) j).x (sd (rg rs s) j).y = 0 := Wn_right (fun i hi => by
      have := hmax i hi
      omega) _
    omega
  · exact hole r s hr hs hne h0
end Go.Proofs.YtnpfkmbcejgnjaaGreatDoor
namespace Go.Proofs.YtnpfkmbcejgnjaaGreatDoor
open Go Go.RowKit Go.Am
def rot {α : Type} (l : List α) (k : Nat) : List α := l.drop k ++ l.take k
theorem rot_len {α : Type} (l : List α) (k : Nat) : (rot l k).length = l.length := by
  unfold rot
  rw [List.length_append, List.length_drop, List.length_take]; omega
theorem rot_get {α : Type} {l : List α} {k i : Nat} (hk : k < l.length) (hi : i < l.length) : (rot l k)[i]? = l[(k + i) % l.length]? := by
  rw [md hk (Nat.le_of_lt hi)]
  unfold rot
  by_cases h : i < l.length - k
  · rw [List.getElem?_append_left (by rw [List.length_drop]; exact h), List.getElem?_drop, if_pos (by omega)]
  · rw [List.getElem?_append_right (by rw [List.length_drop]; omega), List.length_drop, List.getElem?_take, if_pos (by omega), if_neg (by omega)]
    congr 1; omega
theorem sd_rot {l : List Sd} {k i : Nat} (hk : k < l.length) (hi : i < l.length) : sd (rot l k) i = sd l ((k + i) % l.length) := by
  unfold sd
  rw [List.getD_eq_getElem?_getD, List.getD_eq_getElem?_getD, rot_get hk hi]
theorem mem_rot {α : Type} {l : List α} {k : Nat} {s : α} : s ∈ rot l k ↔ s ∈ l := by
  unfold rot
  rw [List.mem_append]
  constructor
  · rintro (h | h)
    · exact List.mem_of_mem_drop h
    · exact List.mem_of_mem_take h
  · intro h
    rw [← List.take_append_drop k l] at h
    exact (List.mem_append.1 h).symm
theorem md_lt {n k i : Nat} (h : 0 < n) : (k + i) % n < n := Nat.mod_lt _ h
theorem nxt_rot (n k i : Nat) : nxt n ((k + i) % n) = (k + nxt n i) % n := by
  rw [nxt_md]
  unfold nxt
  rw [Nat.add_mod_mod]
theorem prv_rot {n : Nat} (k i : Nat) (hn : 0 < n) : prv n ((k + i) % n) = (k + prv n i) % n := by
  unfold prv
  rw [Nat.add_mod_mod, show (k + i) % n + n - 1 = (k + i) % n + (n - 1) by omega, Nat.mod_add_mod, show k + i + (n - 1) = k + (i + n - 1) by omega]
theorem md_inj {n k i j : Nat} (hk : k < n) (hi : i < n) (hj : j < n) (h : (k + i) % n = (k + j) % n) : i = j := by
  rw [md hk (Nat.le_of_lt hi), md hk (Nat.le_of_lt hj)] at h
  split at h <;> split at h <;> omega
theorem md_sur {n k i : Nat} (hk : k < n) (hi : i < n) : ∃ j, j < n ∧ (k + j) % n = i := by
  by_cases h : k ≤ i
  · refine ⟨i - k, by omega, ?_⟩
    rw [show k + (i - k) = i by omega, Nat.mod_eq_of_lt hi]
  · refine ⟨i + n - k, by omega, ?_⟩
    rw [show k + (i + n - k) = i + n by omega, Nat.add_mod_right, Nat.mod_eq_of_lt hi]
theorem area_sign {rs : List (List Sd)} (hc : chk rs = 0) {r : Nat} (hr : r < rs.length) : sumTo (crossAt (rg rs r)) (rg rs r).length > 0 ↔ r = 0 := by
  obtain ⟨_, _, _, hp, _⟩ := chk_parts hc
  obtain ⟨_, h24, _⟩ := chk_ne hc
  have hin := chk_inR hc
  have hm : rg rs r ∈ rs := List.mem_of_getElem? (rg_get hr)
  have hlen := len_le_tot hm
  have h1 : placeRing rs r = true := List.all_eq_true.1 hp r (List.mem_range.2 hr)
  unfold placeRing at h1
  rw [(areaUp_eq (hin _ hm) _ (Nat.le_refl _) (by omega)).1] at h1
  have h5 := (Bool.and_eq_true_iff.1 h1).1
  rw [beq_iff_eq] at h5
  rw [← decide_eq_true_iff (p := sumTo (crossAt (rg rs r)) (rg rs r).length > 0), h5, beq_iff_eq]
theorem someUp_iff (l : List Sd) (b : Bool) : ∀ k, someUp l b k = true ↔ b = true ∨ ∃ i, i < k ∧ (sd l i).gable = false
  | 0 => ⟨.inl, fun h => by
      rcases h with h | ⟨i, hi, _⟩
      · exact h
      · omega⟩
  | k + 1 => by
    show (someUp l b k || !(sd l k).gable) = true ↔ _
    rw [Bool.or_eq_true_iff, someUp_iff l b k, Bool.not_eq_true']
    constructor
    · rintro ((h | ⟨i, hi, h⟩) | h)
      · exact .inl h
      · exact .inr ⟨i, by omega, h⟩
      · exact .inr ⟨k, by omega, h⟩
    · rintro (h | ⟨i, hi, h⟩)
      · exact .inl (.inl h)
      · by_cases e : i = k
        · subst e; exact .inr h
        · exact .inl (.inr ⟨i, by omega, h⟩)
theorem someRs_iff (rs : List (List Sd)) : ∀ n, someRs rs n = true ↔ ∃ r i, r < n ∧ i < (rg rs r).length ∧ (sd (rg rs r) i).gable = false
  | 0 => ⟨fun h => (by cases h), fun ⟨r, i, h, _⟩ => by omega⟩
  | n + 1 => by
    show someUp (rg rs n) (someRs rs n) (rg rs n).length = true ↔ _
    rw [someUp_iff, someRs_iff rs n]
    constructor
    · rintro (⟨r, i, h1, h2, h3⟩ | ⟨i, h1, h2⟩)
      · exact ⟨r, i, by omega, h2, h3⟩
      · exact ⟨n, i, by omega, h1, h2⟩
    · rintro ⟨r, i, h1, h2, h3⟩
      by_cases e : r = n
      · subst e; exact .inr ⟨i, h2, h3⟩
      · exact .inl ⟨r, i, by omega, h2, h3⟩
/-- The same rings, begun elsewhere, courtyards in another order. -/
structure Sim (rs rs' : List (List Sd)) (τ κ : Nat → Nat) : Prop where
  len : rs'.length = rs.length
  ring : ∀ r, r < rs.length → rg rs' r = rot (rg rs (τ r)) (κ r)
  kap : ∀ r, r < rs.length → κ r < (rg rs (τ r)).length
  lt : ∀ r, r < rs.length → τ r < rs.length
  inj : ∀ r s, r < rs.length → s < rs.length → τ r = τ s → r = s
  sur : ∀ r, r < rs.length → ∃ r', r' < rs.length ∧ τ r' = r
  zero : ∀ r, r < rs.length → (τ r = 0 ↔ r = 0)
  tot : tot rs' = tot rs
theorem chk_sim {rs rs' : List (List Sd)} {τ κ : Nat → Nat} (hc : chk rs = 0) (S : Sim rs rs' τ κ) : chk rs' = 0 := by
  obtain ⟨hg, hsh, hx, hp, hj⟩ := chk_parts hc
  obtain ⟨hne, h24, h0⟩ := chk_ne hc
  have hin := chk_inR hc
  have memR : ∀ r, r < rs.length → rg rs r ∈ rs := fun r hr => List.mem_of_getElem? (rg_get hr)
  have mem : ∀ l ∈ rs', ∃ r, r < rs.length ∧ l = rot (rg rs (τ r)) (κ r) := fun l hl => by
    obtain ⟨r, hr, e⟩ := List.getElem_of_mem hl
    have hr' : r < rs.length := by rw [← S.len]; exact hr
    refine ⟨r, hr', ?_⟩
    rw [← S.ring r hr', ← e]
    simp [rg, hr]
  have ln : ∀ r, r < rs.length → (rg rs' r).length = (rg rs (τ r)).length := fun r hr => by rw [S.ring r hr, rot_len]
  have n0 : ∀ r, r < rs.length → 0 < (rg rs (τ r)).length := fun r hr => Nat.lt_of_le_of_lt (Nat.zero_le _) (S.kap r hr)
  have hsd : ∀ r i, r < rs.length → i < (rg rs (τ r)).length → sd (rg rs' r) i = sd (rg rs (τ r)) ((κ r + i) % (rg rs (τ r)).length) := fun r i hr hi => by
    rw [S.ring r hr, sd_rot (S.kap r hr) hi]
  have hnx : ∀ r i, r < rs.length → i < (rg rs (τ r)).length → sd (rg rs' r) (nxt (rg rs' r).length i) = sd (rg rs (τ r)) (nxt (rg rs (τ r)).length ((κ r + i) % (rg rs (τ r)).length)) := fun r i hr hi => by
    rw [ln r hr, hsd r _ hr (nxt_lt hi), nxt_rot]
  have hpv : ∀ r i, r < rs.length → i < (rg rs (τ r)).length → sd (rg rs' r) (prv (rg rs' r).length i) = sd (rg rs (τ r)) (prv (rg rs (τ r)).length ((κ r + i) % (rg rs (τ r)).length)) := fun r i hr hi => by
    rw [ln r hr, hsd r _ hr (prv_lt hi), prv_rot _ _ (n0 r hr)]
  have hin' : ∀ l ∈ rs', ∀ s ∈ l, inR s := fun l hl s hs => by
    obtain ⟨r, hr, rfl⟩ := mem l hl
    exact hin _ (memR _ (S.lt r hr)) s (mem_rot.1 hs)
  have memR' : ∀ r, r < rs.length → rg rs' r ∈ rs' := fun r hr => List.mem_of_getElem? (rg_get (by rw [S.len]; exact hr))
  have shp' : ∀ l ∈ rs', shp l = true := fun l hl => by
    obtain ⟨r, hr, rfl⟩ := mem l hl
    have h1 := hsh _ (memR _ (S.lt r hr))
    unfold shp at h1 ⊢
    rw [rot_len]
    obtain ⟨h2, h3⟩ := Bool.and_eq_true_iff.1 h1
    rw [h2, Bool.true_and]
    refine List.all_eq_true.2 fun i hi => ?_
    have hi := List.mem_range.1 hi
    have h4 := List.all_eq_true.1 h3 _ (List.mem_range.2 (md_lt (k := κ r) (i := i) (n0 r hr)))
    have e1 := hsd r i hr hi
    have e2 := hnx r i hr hi
    have e3 := hpv r i hr hi
    rw [S.ring r hr] at e1 e2 e3
    unfold okSide at h4 ⊢
    rw [e1, e2, e3]
    exact h4
  refine chk_zero (fun l hl e => ?_) (by rw [S.tot]; exact h0) (by rw [S.tot]; exact h24) (any_rgd_mk fun l hl s hs => ?_) shp' ((crs_iff rs').2 fun r i s k hr hi hs hk hn => ?_) (List.all_eq_true.2 fun r hr => ?_) (Bool.and_eq_true_iff.2 ⟨List.all_eq_true.2 fun l hl => ?_, ?_⟩)
  · obtain ⟨r, hr, rfl⟩ := mem l hl
    have h1 := congrArg List.length e
    rw [rot_len, List.length_nil] at h1
    have := n0 r hr
    omega
  · obtain ⟨r, hr, rfl⟩ := mem l hl
    exact hg _ (memR _ (S.lt r hr)) s (mem_rot.1 hs)
  · rw [S.len] at hr hs
    have hi' : i < (rg rs (τ r)).length := by rw [← ln r hr]; exact hi
    have hk' : k < (rg rs (τ s)).length := by rw [← ln s hs]; exact hk
    have h := (crs_iff rs).1 hx (τ r) ((κ r + i) % (rg rs (τ r)).length) (τ s) ((κ s + k) % (rg rs (τ s)).length) (S.lt r hr) (md_lt (n0 r hr)) (S.lt s hs) (md_lt (n0 s hs)) (fun hnear => hn ?_)
    · show meetB (sd (rg rs' r) i) (sd (rg rs' r) (nxt (rg rs' r).length i)) (sd (rg rs' s) k) (sd (rg rs' s) (nxt (rg rs' s).length k)) = false
      rw [hsd r i hr hi', hnx r i hr hi', hsd s k hs hk', hnx s k hs hk']
      exact h
    · obtain ⟨e, hnear⟩ := hnear
      have e := S.inj r s hr hs e
      subst e
      refine ⟨rfl, ?_⟩
      rw [nxt_rot, nxt_rot] at hnear
      rw [ln r hr]
      rcases hnear with h | h | h
      · exact .inl (md_inj (S.kap r hr) hi' hk' h)
      · exact .inr (.inl (md_inj (S.kap r hr) hi' (nxt_lt hk') h))
      · exact .inr (.inr (md_inj (S.kap r hr) hk' (nxt_lt hi') h))
  · have hr := List.mem_range.1 hr
    rw [S.len] at hr
    have hlt := len_le_tot (memR _ (S.lt r hr))
    unfold placeRing
    rw [(areaUp_eq (hin' _ (memR' r hr)) _ (Nat.le_refl _) (by rw [ln r hr]; omega)).1]
    have ea : sumTo (crossAt (rg rs' r)) (rg rs' r).length = sumTo (crossAt (rg rs (τ r))) (rg rs (τ r)).length := by
      rw [← sumTo_from (crossAt (rg rs (τ r))) (rg rs (τ r)).length (κ r), ln r hr]
      refine sumTo_congr _ fun i hi => ?_
      unfold crossAt
      rw [hsd r i hr hi, hnx r i hr hi]
    rw [ea]
    refine Bool.and_eq_true_iff.2 ⟨?_, List.all_eq_true.2 fun k hk => ?_⟩
    · rw [beq_iff_eq]
      have h1 := (area_sign hc (S.lt r hr)).trans (S.zero r hr)
      by_cases e : r = 0
      · rw [decide_eq_true (h1.2 e), e]; rfl
      · rw [decide_eq_false (fun h => e (h1.1 h)), beq_false_of_ne e]
    · have hk := List.mem_range.1 hk
      rw [S.len] at hk
      unfold placeK
      by_cases ek : k = r
      · subst ek; simp
      by_cases e0 : r = 0
      · subst e0; simp
      have hne : τ r ≠ τ k := fun e => ek (S.inj r k hr hk e).symm
      have hpar := ins_par (hin' _ (memR' k hk)) (shp_axial (hin' _ (memR' k hk)) (shp' _ (memR' k hk))) (sd (rg rs' r) 0).x (sd (rg rs' r) 0).y _ (Nat.le_refl _)
      have hc0 : sd (rg rs' r) 0 = sd (rg rs (τ r)) (κ r) := by
        rw [hsd r 0 hr (n0 r hr), Nat.add_zero, Nat.mod_eq_of_lt (S.kap r hr)]
      have hc1 : ∀ j, j < (rg rs' k).length → ind (sd (rg rs' k) j).x (sd (rg rs' r) 0).x * (ind (sd (rg rs' k) (nxt (rg rs' k).length j)).y (sd (rg rs' r) 0).y - ind (sd (rg rs' k) j).y (sd (rg rs' r) 0).y) = (fun j => ind (sd (rg rs (τ k)) j).x (sd (rg rs (τ r)) (κ r)).x * (ind (sd (rg rs (τ k)) (nxt (rg rs (τ k)).length j)).y (sd (rg rs (τ r)) (κ r)).y - ind (sd (rg rs (τ k)) j).y (sd (rg rs (τ r)) (κ r)).y)) ((κ k + j) % (rg rs (τ k)).length) := fun j hj' => by
        rw [ln k hk] at hj'
        simp only
        rw [hnx k j hk hj', hsd k j hk hj', hc0]
      have esum : sumTo (fun j => ind (sd (rg rs' k) j).x (sd (rg rs' r) 0).x * (ind (sd (rg rs' k) (nxt (rg rs' k).length j)).y (sd (rg rs' r) 0).y - ind (sd (rg rs' k) j).y (sd (rg rs' r) 0).y)) (rg rs' k).length = Wr rs (τ k) (sd (rg rs (τ r)) (κ r)).x (sd (rg rs (τ r)) (κ r)).y := by
        rw [sumTo_congr _ hc1, ln k hk]
        exact sumTo_from (fun j => ind (sd (rg rs (τ k)) j).x (sd (rg rs (τ r)) (κ r)).x * (ind (sd (rg rs (τ k)) (nxt (rg rs (τ k)).length j)).y (sd (rg rs (τ r)) (κ r)).y - ind (sd (rg rs (τ k)) j).y (sd (rg rs (τ r)) (κ r)).y)) (rg rs (τ k)).length (κ k)
      rw [esum, Wr_at hc (S.lt r hr) (S.lt k hk) hne _ (S.kap r hr)] at hpar
      rw [beq_false_of_ne ek, beq_false_of_ne e0, Bool.false_or, Bool.false_or, beq_iff_eq]
      have hz := S.zero k hk
      by_cases e : k = 0
      · rw [if_pos (hz.2 e)] at hpar
        rw [e] at hpar ⊢
        cases hi : insUp (rg rs' 0) (sd (rg rs' r) 0).x (sd (rg rs' r) 0).y (rg rs' 0).length with
        | true => rfl
        | false => rw [hi] at hpar; cases hpar
      · rw [if_neg (fun h => e (hz.1 h))] at hpar
        rw [beq_false_of_ne e]
        cases hi : insUp (rg rs' k) (sd (rg rs' r) 0).x (sd (rg rs' r) 0).y (rg rs' k).length with
        | false => rfl
        | true => rw [hi] at hpar; cases hpar
  · obtain ⟨r, hr, rfl⟩ := mem l hl
    have h1 := List.all_eq_true.1 (Bool.and_eq_true_iff.1 hj).1 _ (memR _ (S.lt r hr))
    unfold joinRing at h1 ⊢
    rw [rot_len]
    refine List.all_eq_true.2 fun i hi => ?_
    have hi := List.mem_range.1 hi
    have h4 := List.all_eq_true.1 h1 _ (List.mem_range.2 (md_lt (k := κ r) (i := i) (n0 r hr)))
    have e1 := hsd r i hr hi
    have e2 := hnx r i hr hi
    have e3 := hpv r i hr hi
    rw [S.ring r hr] at e1 e2 e3
    unfold joinSide at h4 ⊢
    rw [e1, e2, e3]
    exact h4
  · rw [S.len, someRs_iff]
    obtain ⟨r, i, hr, hi, hgb⟩ := (someRs_iff rs rs.length).1 (Bool.and_eq_true_iff.1 hj).2
    obtain ⟨r', hr', e⟩ := S.sur r hr
    subst e
    obtain ⟨j, hj', e⟩ := md_sur (S.kap r' hr') hi
    refine ⟨r', j, hr', by rw [ln r' hr']; exact hj', ?_⟩
    rw [hsd r' j hr' hj', e]
    exact hgb
end Go.Proofs.YtnpfkmbcejgnjaaGreatDoor
namespace Go.Proofs.YtnpfkmbcejgnjaaGreatDoor
open Go Go.RowKit Go.Am
def cmpI (a b : Int) : Int := if a < b then -1 else if a > b then 1 else 0
/-- The order of sides by their corners. -/
def cmpS (a b : Sd) : Int := if cmpI a.x b.x ≠ 0 then cmpI a.x b.x else cmpI a.y b.y
theorem cmpI_val (a b : Int) : (a < b ∧ cmpI a b = -1) ∨ (a > b ∧ cmpI a b = 1) ∨ (a = b ∧ cmpI a b = 0) := by
  unfold cmpI
  by_cases h : a < b
  · rw [if_pos h]; exact .inl ⟨h, rfl⟩
  · rw [if_neg h]
    by_cases h2 : a > b
    · rw [if_pos h2]; exact .inr (.inl ⟨h2, rfl⟩)
    · rw [if_neg h2]; exact .inr (.inr ⟨by omega, rfl⟩)
theorem cmpS_val (a b : Sd) : ((a.x < b.x ∨ (a.x = b.x ∧ a.y < b.y)) ∧ cmpS a b = -1) ∨ ((b.x < a.x ∨ (a.x = b.x ∧ b.y < a.y)) ∧ cmpS a b = 1) ∨ ((a.x = b.x ∧ a.y = b.y) ∧ cmpS a b = 0) := by
  unfold cmpS
  rcases cmpI_val a.x b.x with ⟨h, e⟩ | ⟨h, e⟩ | ⟨h, e⟩ <;> rw [e]
  · rw [if_pos (by decide)]; exact .inl ⟨.inl h, rfl⟩
  · rw [if_pos (by decide)]; exact .inr (.inl ⟨.inl h, rfl⟩)
  · rw [if_neg (by decide)]
    rcases cmpI_val a.y b.y with ⟨h', e'⟩ | ⟨h', e'⟩ | ⟨h', e'⟩ <;> rw [e']
    · exact .inl ⟨.inr ⟨h, h'⟩, rfl⟩
    · exact .inr (.inl ⟨.inr ⟨h, h'⟩, rfl⟩)
    · exact .inr (.inr ⟨⟨h, h'⟩, rfl⟩)
theorem cmpS_neg {a b : Sd} : cmpS a b < 0 ↔ (a.x < b.x ∨ (a.x = b.x ∧ a.y < b.y)) := by
  rcases cmpS_val a b with ⟨h, e⟩ | ⟨h, e⟩ | ⟨h, e⟩ <;> rw [e] <;> constructor <;> intro h' <;> omega
theorem cmpS_zero {a b : Sd} : cmpS a b = 0 ↔ (a.x = b.x ∧ a.y = b.y) := by
  rcases cmpS_val a b with ⟨h, e⟩ | ⟨h, e⟩ | ⟨h, e⟩ <;> rw [e] <;> constructor <;> intro h' <;> omega
/-- The place of the least corner, as it is looked for. -/
def atUp (l : List Sd) : Nat → Nat
  | 0 => 0
  | k + 1 => if cmpS (sd l (k + 1)) (sd l (atUp l k)) < 0 then k + 1 else atUp l k
def atS (l : List Sd) : Nat := atUp l (l.length - 1)
theorem atUp_le (l : List Sd) : ∀ k, atUp l k ≤ k
  | 0 => Nat.le_refl _
  | k + 1 => by
    have := atUp_le l k
    have e : atUp l (k + 1) = if cmpS (sd l (k + 1)) (sd l (atUp l k)) < 0 then k + 1 else atUp l k := rfl
    rw [e]
    split <;> omega
def IsMin (l : List Sd) (i : Nat) : Prop := i < l.length ∧ ∀ j, j < l.length → j ≠ i → cmpS (sd l i) (sd l j) < 0
/-- No corner is there twice. -/
def Dist (l : List Sd) : Prop := ∀ i j, i < l.length → j < l.length → i ≠ j → ¬ ((sd l i).x = (sd l j).x ∧ (sd l i).y = (sd l j).y)
theorem ex_min {l : List Sd} (hd : Dist l) (h0 : 0 < l.length) : IsMin l (atS l) := by
  have key : ∀ k, k < l.length → ∀ j, j ≤ k → j ≠ atUp l k → cmpS (sd l (atUp l k)) (sd l j) < 0 := fun k => by
    induction k with
    | zero => intro _ j hj hn; exact absurd (show j = 0 by omega) hn
    | succ k ih =>
      intro hk j hj hn
      have e : atUp l (k + 1) = if cmpS (sd l (k + 1)) (sd l (atUp l k)) < 0 then k + 1 else atUp l k := rfl
      have hle := atUp_le l k
      by_cases hc : cmpS (sd l (k + 1)) (sd l (atUp l k)) < 0
      · rw [if_pos hc] at e
        rw [e] at hn ⊢
        by_cases e2 : j = atUp l k
        · rw [e2]; exact hc
        · have h1 := cmpS_neg.1 (ih (by omega) j (by omega) e2)
          have h2 := cmpS_neg.1 hc
          exact cmpS_neg.2 (by omega)
      · rw [if_neg hc] at e
        rw [e] at hn ⊢
        by_cases e2 : j = k + 1
        · subst e2
          have h3 := hd (atUp l k) (k + 1) (by omega) hk (by omega)
          rcases cmpS_val (sd l (k + 1)) (sd l (atUp l k)) with ⟨_, e3⟩ | ⟨h4, _⟩ | ⟨h4, _⟩
          · exact absurd (show cmpS (sd l (k + 1)) (sd l (atUp l k)) < 0 by rw [e3]; decide) hc
          · exact cmpS_neg.2 (by omega)
          · exact absurd ⟨h4.1.symm, h4.2.symm⟩ h3
        · exact ih (by omega) j (by omega) hn
  have hle := atUp_le l (l.length - 1)
  exact ⟨by unfold atS; omega, fun j hj hn => key _ (by omega) j (by omega) hn⟩
theorem ring_dist {rs : List (List Sd)} (hc : chk rs = 0) {r : Nat} (hr : r < rs.length) : Dist (rg rs r) := fun i j hi hj hne h => by
  have N := chk_net hc hr
  have s1 := N.side i hi
  have s2 := N.side j hj
  rcases N.free i j hi hj (sd (rg rs r) i).x (sd (rg rs r) i).y (by unfold On; simp only; omega) (by unfold On; simp only; omega) with e | e | e
  · exact hne e
  · rw [e] at h; omega
  · rw [e] at h; omega
/-- The ring from its least corner on. -/
def can1 (l : List Sd) : List Sd := rot l (atS l)
theorem IsMin.rot {l : List Sd} {i k : Nat} (h : IsMin l i) (hk : k < l.length) : ∃ j, j < l.length ∧ (k + j) % l.length = i ∧ IsMin (rot l k) j := by
  obtain ⟨j, hj, e⟩ := md_sur hk h.1
  refine ⟨j, hj, e, by rw [rot_len]; exact hj, fun m hm hn => ?_⟩
  rw [rot_len] at hm
  rw [sd_rot hk hj, sd_rot hk hm, e]
  exact h.2 _ (md_lt (by omega)) fun h' => hn (md_inj hk hm hj (by rw [h', e]))
theorem can1_len (l : List Sd) : (can1 l).length = l.length := rot_len ..
abbrev PR := List Sd × List Int
def oldN (off n : Nat) : List Int := (List.range n).map fun i => ((off + i : Nat) : Int)
theorem oldN_len (off n : Nat) : (oldN off n).length = n := by simp [oldN]
theorem oldN_app (off n m : Nat) : oldN off n ++ oldN (off + n) m = oldN off (n + m) := by
  apply List.ext_getElem?
  intro i
  unfold oldN
  by_cases h : i < n
  · rw [List.getElem?_append_left (by simpa using h), List.getElem?_map, List.getElem?_map, List.getElem?_range h, List.getElem?_range (by omega)]
  · rw [List.getElem?_append_right (by simpa using h), List.getElem?_map, List.getElem?_map]
    simp only [List.length_map, List.length_range]
    by_cases h2 : i < n + m
    · rw [List.getElem?_range (by omega), List.getElem?_range h2]
      simp only [Option.map_some]
      congr 2; omega
    · rw [List.getElem?_eq_none (by simp; omega), List.getElem?_eq_none (by simp; omega)]; rfl
def pairR (rs : List (List Sd)) (r : Nat) : PR := (can1 (rg rs r), rot (oldN (tot (rs.take r)) (rg rs r).length) (atS (rg rs r)))
def pairs (rs : List (List Sd)) : Nat → List PR
  | 0 => []
  | r + 1 => pairs rs r ++ [pairR rs r]
def swap2 : List PR → List PR
  | [p, q] => if cmpS (sd q.1 0) (sd p.1 0) < 0 then [q, p] else [p, q]
  | l => l
def sort2 : List PR → List PR
  | [] => []
  | p :: t => p :: swap2 t
def canP (rs : List (List Sd)) : List PR := sort2 (pairs rs rs.length)
def canR (rs : List (List Sd)) : List (List Sd) := (canP rs).map (·.1)
def olds (rs : List (List Sd)) : List Int := (canP rs).flatMap (·.2)
theorem swap2_perm : ∀ l : List PR, (swap2 l).Perm l
  | [] => .refl _
  | [_] => .refl _
  | [p, q] => by
    show (if _ then [q, p] else [p, q]).Perm _
    split
    · exact .swap ..
    · exact .refl _
  | _ :: _ :: _ :: _ => .refl _
theorem sort2_perm : ∀ l : List PR, (sort2 l).Perm l
  | [] => .refl _
  | _ :: t => (swap2_perm t).cons _
theorem rot_perm {α : Type} (l : List α) (k : Nat) : (rot l k).Perm l := by
  unfold rot
  conv => rhs; rw [← List.take_append_drop k l]
  exact List.perm_append_comm
theorem pairs_olds (rs : List (List Sd)) : ∀ n, n ≤ rs.length → ((pairs rs n).flatMap (·.2)).Perm (oldN 0 (tot (rs.take n)))
  | 0, _ => by simp [pairs, oldN, tot]
  | n + 1, h => by
    have ih := pairs_olds rs n (by omega)
    have e := oldN_app 0 (tot (rs.take n)) (rg rs n).length
    rw [Nat.zero_add] at e
    rw [tot_take_succ (show n < rs.length by omega), ← e]
    show ((pairs rs n ++ [pairR rs n]).flatMap (·.2)).Perm _
    rw [List.flatMap_append]
    refine ih.append ?_
    show ([pairR rs n].flatMap (·.2)).Perm _
    simp only [List.flatMap_cons, List.flatMap_nil, List.append_nil]
    exact rot_perm ..
theorem olds_perm (rs : List (List Sd)) : (olds rs).Perm (oldN 0 (tot rs)) := by
  have h := pairs_olds rs rs.length (Nat.le_refl _)
  rw [List.take_length] at h
  exact ((sort2_perm _).flatMap_right _).trans h
/-- The side with an old number. -/
def oldS (rs : List (List Sd)) (o : Int) : Sd := rs.flatten.getD o.toNat default
theorem rot_map {α β : Type} (f : α → β) (l : List α) (k : Nat) : rot (l.map f) k = (rot l k).map f := by simp [rot]
theorem ring_old {rs : List (List Sd)} {r : Nat} (hr : r < rs.length) : rg rs r = (oldN (tot (rs.take r)) (rg rs r).length).map (oldS rs) := by
  apply List.ext_getElem?
  intro i
  unfold oldN
  rw [List.map_map, List.getElem?_map]
  by_cases h : i < (rg rs r).length
  · rw [List.getElem?_range h, sd_get h]
    show some _ = some (oldS rs ((tot (rs.take r) + i : Nat) : Int))
    congr 1
    unfold oldS
    rw [show (((tot (rs.take r) + i : Nat) : Int)).toNat = tot (rs.take r) + i by omega]
    have e : rs.flatten = (rs.take r).flatten ++ (rg rs r ++ (rs.drop (r + 1)).flatten) := by
      have h2 : rs = rs.take r ++ (rg rs r :: rs.drop (r + 1)) := by
        conv => lhs; rw [← List.take_append_drop r rs, List.drop_eq_getElem_cons hr]
        simp [rg, hr]
      conv => lhs; rw [h2]
      simp
    rw [e, List.getD_eq_getElem?_getD, List.getElem?_append_right (by rw [flat_len]; omega), flat_len, Nat.add_sub_cancel_left, List.getElem?_append_left h, sd_get h]; rfl
  · rw [List.getElem?_eq_none (by omega), List.getElem?_eq_none (by simpa using h)]; rfl
theorem pairs_old {rs : List (List Sd)} : ∀ n, n ≤ rs.length → ∀ p ∈ pairs rs n, p.1 = p.2.map (oldS rs)
  | 0, _, p, h => by cases h
  | n + 1, hn, p, h => by
    rcases List.mem_append.1 h with h | h
    · exact pairs_old n (by omega) p h
    · obtain rfl := List.mem_singleton.1 h
      show rot (rg rs n) _ = (rot _ _).map _
      rw [← rot_map, ← ring_old (by omega)]
theorem flat_old (f : Int → Sd) : ∀ ps : List PR, (∀ p ∈ ps, p.1 = p.2.map f) → (ps.map (·.1)).flatten = (ps.flatMap (·.2)).map f
  | [], _ => rfl
  | p :: ps, h => by
    simp only [List.map_cons, List.flatten_cons, List.flatMap_cons, List.map_append]
    rw [h p (List.mem_cons_self ..), flat_old f ps fun q hq => h q (List.mem_cons_of_mem _ hq)]
/-- Each side of the canonical plan is the one with its old number. -/
theorem canR_flat (rs : List (List Sd)) : (canR rs).flatten = (olds rs).map (oldS rs) :=
  flat_old _ _ fun p hp => pairs_old _ (Nat.le_refl _) p ((sort2_perm _).mem_iff.1 hp)
theorem canR_tot (rs : List (List Sd)) : tot (canR rs) = tot rs := by
  rw [← flat_len, canR_flat, List.length_map, (olds_perm rs).length_eq, oldN_len]
end Go.Proofs.YtnpfkmbcejgnjaaGreatDoor
namespace Go.Proofs.YtnpfkmbcejgnjaaGreatDoor
open Go Go.RowKit Go.Am
theorem rings3 {rs : List (List Sd)} (hc : chk rs = 0) (h12 : tot rs ≤ 12) : rs.length = 1 ∨ rs.length = 2 ∨ rs.length = 3 := by
  have h4 : ∀ l ∈ rs, 4 ≤ l.length := fun l hl => shp_len ((chk_parts hc).2.1 l hl)
  have h0 := (chk_ne hc).2.2
  match rs, h4, h0, h12 with
  | [], _, h0, _ => exact absurd rfl h0
  | [_], _, _, _ => exact .inl rfl
  | [_, _], _, _, _ => exact .inr (.inl rfl)
  | [_, _, _], _, _, _ => exact .inr (.inr rfl)
  | a :: b :: c :: d :: t, h4, _, h12 =>
    have h1 := h4 a (by simp)
    have h2 := h4 b (by simp)
    have h3 := h4 c (by simp)
    have h5 := h4 d (by simp)
    simp only [tot, List.map_cons, List.sum_cons] at h12
    omega
theorem pairs3 (rs : List (List Sd)) : pairs rs 3 = [pairR rs 0, pairR rs 1, pairR rs 2] := rfl
def c1 (rs : List (List Sd)) (r : Nat) : List Sd := can1 (rg rs r)
theorem canR_1 {rs : List (List Sd)} (h : rs.length = 1) : canR rs = [c1 rs 0] := by
  unfold canR canP
  rw [h]; rfl
theorem canR_2 {rs : List (List Sd)} (h : rs.length = 2) : canR rs = [c1 rs 0, c1 rs 1] := by
  unfold canR canP
  rw [h]; rfl
theorem canR_3 {rs : List (List Sd)} (h : rs.length = 3) : canR rs = if cmpS (sd (c1 rs 2) 0) (sd (c1 rs 1) 0) < 0 then [c1 rs 0, c1 rs 2, c1 rs 1] else [c1 rs 0, c1 rs 1, c1 rs 2] := by
  unfold canR canP
  rw [h, pairs3]
  show (pairR rs 0 :: (if cmpS (sd (c1 rs 2) 0) (sd (c1 rs 1) 0) < 0 then [pairR rs 2, pairR rs 1] else [pairR rs 1, pairR rs 2])).map (·.1) = _
  split <;> rfl
theorem at_lt {rs : List (List Sd)} (hc : chk rs = 0) {r : Nat} (hr : r < rs.length) : atS (rg rs r) < (rg rs r).length :=
  (ex_min (ring_dist hc hr) (List.length_pos_iff.2 ((chk_ne hc).1 _ (List.mem_of_getElem? (rg_get hr))))).1
def sw (r : Nat) : Nat := if r = 1 then 2 else if r = 2 then 1 else r
/-- Three rings at most, perhaps two of them exchanged. -/
theorem sim_mk {rs rs' : List (List Sd)} {κ : Nat → Nat} (τ : Nat → Nat) (hτ : (∀ r, τ r = r) ∨ (τ = sw ∧ rs.length = 3)) (hlen : rs'.length = rs.length) (hring : ∀ r, r < rs.length → rg rs' r = rot (rg rs (τ r)) (κ r)) (hk : ∀ r, r < rs.length → κ r < (rg rs (τ r)).length) (ht : tot rs' = tot rs) : Sim rs rs' τ κ := by
  rcases hτ with h | ⟨rfl, h3⟩
  · exact ⟨hlen, hring, hk, fun r hr => by rw [h]; exact hr, fun r s _ _ e => by rw [h, h] at e; exact e, fun r hr => ⟨r, hr, h r⟩, fun r _ => by rw [h], ht⟩
  · refine ⟨hlen, hring, hk, fun r hr => ?_, fun r s hr hs e => ?_, fun r hr => ?_, fun r hr => ?_, ht⟩
    · unfold sw; split <;> first | omega | (split <;> omega)
    · unfold sw at e
      by_cases h1 : r = 1 <;> by_cases h2 : s = 1 <;> by_cases h4 : r = 2 <;> by_cases h5 : s = 2 <;> simp [h1, h2, h4, h5] at e <;> omega
    · refine ⟨sw r, ?_, ?_⟩
      · unfold sw; split <;> first | omega | (split <;> omega)
      · by_cases h1 : r = 1
        · subst h1; rfl
        · by_cases h2 : r = 2
          · subst h2; rfl
          · unfold sw; simp [h1, h2]
    · unfold sw
      by_cases h1 : r = 1
      · subst h1; simp
      · by_cases h2 : r = 2
        · subst h2; simp
        · simp [h1, h2]
theorem canR_sim {rs : List (List Sd)} (hc : chk rs = 0) (h12 : tot rs ≤ 12) : ∃ τ κ, Sim rs (canR rs) τ κ := by
  have ht := canR_tot rs
  rcases rings3 hc h12 with h | h | h
  · refine ⟨id, fun r => atS (rg rs r), sim_mk id (.inl fun _ => rfl) (by rw [canR_1 h, h]; rfl) (fun r hr => ?_) (fun r hr => at_lt hc hr) ht⟩
    rw [canR_1 h]
    obtain rfl : r = 0 := by omega
    rfl
  · refine ⟨id, fun r => atS (rg rs r), sim_mk id (.inl fun _ => rfl) (by rw [canR_2 h, h]; rfl) (fun r hr => ?_) (fun r hr => at_lt hc hr) ht⟩
    rw [canR_2 h]
    rcases (show r = 0 ∨ r = 1 by omega) with rfl | rfl <;> rfl
  · by_cases hs : cmpS (sd (c1 rs 2) 0) (sd (c1 rs 1) 0) < 0
    · have e : canR rs = [c1 rs 0, c1 rs 2, c1 rs 1] := by rw [canR_3 h, if_pos hs]
      refine ⟨sw, fun r => atS (rg rs (sw r)), sim_mk sw (.inr ⟨rfl, h⟩) (by rw [e, h]; rfl) (fun r hr => ?_) (fun r hr => at_lt hc ?_) ht⟩
      · rw [e]
        rcases (show r = 0 ∨ r = 1 ∨ r = 2 by omega) with rfl | rfl | rfl <;> rfl
      · rw [h] at hr ⊢
        rcases (show r = 0 ∨ r = 1 ∨ r = 2 by omega) with rfl | rfl | rfl <;> decide
    · have e : canR rs = [c1 rs 0, c1 rs 1, c1 rs 2] := by rw [canR_3 h, if_neg hs]
      refine ⟨id, fun r => atS (rg rs r), sim_mk id (.inl fun _ => rfl) (by rw [e, h]; rfl) (fun r hr => ?_) (fun r hr => at_lt hc hr) ht⟩
      rw [e]
      rcases (show r = 0 ∨ r = 1 ∨ r = 2 by omega) with rfl | rfl | rfl <;> rfl
theorem canR_chk {rs : List (List Sd)} (hc : chk rs = 0) (h12 : tot rs ≤ 12) : chk (canR rs) = 0 := by
  obtain ⟨τ, κ, S⟩ := canR_sim hc h12
  exact chk_sim hc S
def r1 (rs : List (List Sd)) (m r : Nat) : List Sd := rot (rg rs r) (m % (rg rs r).length)
theorem c1_first {rs : List (List Sd)} (hc : chk rs = 0) {r : Nat} (hr : r < rs.length) : sd (c1 rs r) 0 = sd (rg rs r) (atS (rg rs r)) := by
  have h := at_lt hc hr
  unfold c1 can1
  rw [sd_rot h (by omega), Nat.add_zero, Nat.mod_eq_of_lt h]
end Go.Proofs.YtnpfkmbcejgnjaaGreatDoor
namespace Go.Am
open Go Go.RowKit
/-- One block of W (g) has become another one, or the same with other content; all others are as they were. -/
structure Near (W W' : World) (g g' : Nat) (o' : Obj) : Prop where
  os : W'.os = W.os
  tape : W'.tape = W.tape
  output : W'.output = W.output
  size : W.heap.size ≤ W'.heap.size
  new : W'.heap[g']? = some o'
  at_ : g' = g ∨ W.heap.size ≤ g'
  old : ∀ x, x ≠ g → x < W.heap.size → W'.heap[x]? = W.heap[x]?
theorem Upd.near {W W' : World} {b : Nat} {o : Obj} (h : Upd W W' b o) (hlt : b < W.heap.size) : Near W W' b b o := by
  refine ⟨h.os, h.tape, h.output, by rw [h.heap, Array.size_setIfInBounds]; exact Nat.le_refl _, ?_, .inl rfl, fun x hx _ => ?_⟩
  · rw [h.heap, Array.getElem?_setIfInBounds, if_pos rfl, if_pos hlt]
  · rw [h.heap, Array.getElem?_setIfInBounds, if_neg (fun e => hx e.symm)]
theorem nodup_mid {α : Type} {A C : List α} {b : α} : (A ++ b :: C).Nodup ↔ (b ∉ A ∧ b ∉ C) ∧ (A ++ C).Nodup := by
  simp only [List.nodup_append, List.nodup_cons]
  constructor
  · rintro ⟨h1, ⟨h2, h3⟩, h4⟩
    exact ⟨⟨fun h => h4 b h b (List.mem_cons_self ..) rfl, h2⟩, h1, h3, fun x hx y hy => h4 x hx y (List.mem_cons_of_mem _ hy)⟩
  · rintro ⟨⟨h1, h2⟩, h3, h4, h5⟩
    refine ⟨h3, ⟨h2, h4⟩, fun x hx y hy => ?_⟩
    rcases List.mem_cons.1 hy with rfl | hy
    · exact fun e => h1 (e ▸ hx)
    · exact h5 x hx y hy
theorem Hp.near {W0 W W' : World} {bxs : List Bx} (h : Hp W0 bxs W) {k : Nat} {B B' : Bx} {L1 L2 : List (Nat × Obj)} {b g' : Nat} {ob o' : Obj} (hk : bxs[k]? = some B) (hB : B.blk = L1 ++ (b, ob) :: L2) (hB' : B'.blk = L1 ++ (g', o') :: L2) (hN : Near W W' b g' o') : Hp W0 (bxs.set k B') W' := by
  have hnd := h.own.nd k B hk
  rw [hB, List.map_append, List.map_cons, nodup_mid] at hnd
  obtain ⟨⟨n1, n2⟩, n3⟩ := hnd
  have inB : ∀ p, p ∈ L1 ∨ p ∈ L2 → p ∈ B.blk := fun p hp => by
    rw [hB]
    rcases hp with hp | hp
    · exact List.mem_append_left _ hp
    · exact List.mem_append_right _ (List.mem_cons_of_mem _ hp)
  have hb : (b, ob) ∈ B.blk := by rw [hB]; exact List.mem_append_right _ (List.mem_cons_self ..)
  have ne : ∀ p, p ∈ L1 ∨ p ∈ L2 → p.1 ≠ b := fun p hp e => by
    rcases hp with hp | hp
    · exact n1 (List.mem_map.2 ⟨p, hp, e⟩)
    · exact n2 (List.mem_map.2 ⟨p, hp, e⟩)
  have cases3 : ∀ p, p ∈ B'.blk → (p ∈ L1 ∨ p ∈ L2) ∨ p = (g', o') := fun p hp => by
    rw [hB'] at hp
    rcases List.mem_append.1 hp with hp | hp
    · exact .inl (.inl hp)
    · rcases List.mem_cons.1 hp with hp | hp
      · exact .inr hp
      · exact .inl (.inr hp)
  refine h.turn hk (fun p hp => ?_) ?_ hN.os hN.tape hN.output hN.size (fun p hp => ?_) (fun x hx hlt => hN.old x (fun e => hx _ hb e.symm) hlt)
  · rcases cases3 p hp with hp | rfl
    · exact .inl ⟨p, inB p hp, rfl⟩
    · rcases hN.at_ with e | e
      · exact .inl ⟨_, hb, e.symm⟩
      · exact .inr e
  · rw [hB', List.map_append, List.map_cons, nodup_mid]
    refine ⟨?_, n3⟩
    rcases hN.at_ with e | e
    · rw [show (g', o').1 = b from e]; exact ⟨n1, n2⟩
    · constructor <;> intro hm <;> obtain ⟨p, hp, e2⟩ := List.mem_map.1 hm
      · have := h.own.lt hk (inB p (.inl hp)); have e3 : p.1 = g' := e2; omega
      · have := h.own.lt hk (inB p (.inr hp)); have e3 : p.1 = g' := e2; omega
  · rcases cases3 p hp with hp | rfl
    · rw [hN.old p.1 (ne p hp) (h.own.lt hk (inB p hp))]
      exact (h.own.cell k B hk p (inB p hp)).1
    · exact hN.new
def noHeap (W : World) : World := { W with heap := #[] }
def othersL (W : World) (g : Nat) : List (Nat × Obj) := (List.range W.heap.size).filterMap fun i => if i = g then none else (W.heap[i]?).map fun o => (i, o)
theorem mem_others {W : World} {g : Nat} {p : Nat × Obj} : p ∈ othersL W g ↔ p.1 ≠ g ∧ W.heap[p.1]? = some p.2 := by
  unfold othersL
  rw [List.mem_filterMap]
  constructor
  · rintro ⟨i, hi, h⟩
    split at h
    · cases h
    · rename_i hne
      cases ho : W.heap[i]? with
      | none => rw [ho] at h; cases h
      | some o => rw [ho] at h; cases h; exact ⟨hne, ho⟩
  · rintro ⟨h1, h2⟩
    refine ⟨p.1, List.mem_range.2 (Array.getElem?_eq_some_iff.1 h2).1, ?_⟩
    rw [if_neg h1, h2]; rfl
theorem others_nodup (W : World) (g : Nat) : ((othersL W g).map (·.1)).Nodup := by
  unfold List.Nodup
  rw [List.pairwise_map]
  refine List.Pairwise.filterMap (R := (· ≠ ·)) _ (fun a a' hne p hp q hq => ?_) List.nodup_range
  have one : ∀ (i : Nat) (p : Nat × Obj), (if i = g then none else (W.heap[i]?).map fun o => (i, o)) = some p → p.1 = i := fun i p h => by
    split at h
    · cases h
    · cases ho : W.heap[i]? with
      | none => rw [ho] at h; cases h
      | some o => rw [ho] at h; cases h; rfl
  rw [one a p hp, one a' q hq]; exact hne
theorem Hp.enterT {W : World} {g : Nat} {B : Bx} {o : Obj} (hB : B.blk = [(g, o)]) (ho : W.heap[g]? = some o) : Hp (noHeap W) [grpB (othersL W g), B] W := by
  have two : ∀ {k : Nat} {C : Bx}, [grpB (othersL W g), B][k]? = some C → (k = 0 ∧ C = grpB (othersL W g)) ∨ (k = 1 ∧ C = B) := fun {k C} h => by
    cases k with
    | zero => simp at h; exact .inl ⟨rfl, h.symm⟩
    | succ k => cases k with
      | zero => simp at h; exact .inr ⟨rfl, h.symm⟩
      | succ k => simp at h
  refine ⟨⟨rfl, rfl, rfl, Nat.zero_le _, fun k hk => absurd hk (Nat.not_lt_zero _)⟩, fun k C hk p hp => ?_, fun k C hk => ?_, fun i j C E hi hj hne p hp q hq => ?_⟩
  · rcases two hk with ⟨_, rfl⟩ | ⟨_, rfl⟩
    · exact ⟨(mem_others.1 (show p ∈ othersL W g from hp)).2, Nat.zero_le _⟩
    · rw [hB] at hp; obtain rfl := List.mem_singleton.1 hp; exact ⟨ho, Nat.zero_le _⟩
  · rcases two hk with ⟨_, rfl⟩ | ⟨_, rfl⟩
    · exact others_nodup W g
    · rw [hB]; exact List.nodup_cons.2 ⟨List.not_mem_nil, List.nodup_nil⟩
  · rcases two hi with ⟨rfl, rfl⟩ | ⟨rfl, rfl⟩ <;> rcases two hj with ⟨rfl, rfl⟩ | ⟨rfl, rfl⟩
    · exact absurd rfl hne
    · rw [hB] at hq; obtain rfl := List.mem_singleton.1 hq
      exact (mem_others.1 (show p ∈ othersL W g from hp)).1
    · rw [hB] at hp; obtain rfl := List.mem_singleton.1 hp
      exact fun e => (mem_others.1 (show q ∈ othersL W g from hq)).1 e.symm
    · exact absurd rfl hne
theorem near_of {W W' : World} {g g' : Nat} {o o' : Obj} {B' : Bx} (hg : W.heap[g]? = some o) (hB' : B'.blk = [(g', o')]) (hb : Below (noHeap W).heap.size (noHeap W) W') (hn : NewBx (noHeap W) W' [grpB (othersL W g), B']) : Near W W' g g' o' := by
  have c0 : ∀ p ∈ othersL W g, W'.heap[p.1]? = some p.2 := fun p hp => (hn.cell 0 _ rfl p hp).1
  have c1 : W'.heap[g']? = some o' := (hn.cell 1 B' rfl (g', o') (by rw [hB']; exact List.mem_cons_self ..)).1
  have old : ∀ x, x ≠ g → x < W.heap.size → W'.heap[x]? = W.heap[x]? := fun x hx hlt => by
    have h1 : W.heap[x]? = some W.heap[x] := Array.getElem?_eq_getElem hlt
    rw [h1]
    exact c0 (x, W.heap[x]) (mem_others.2 ⟨hx, h1⟩)
  have at_ : g' = g ∨ W.heap.size ≤ g' := by
    by_cases e : g' = g
    · exact .inl e
    · refine .inr (Nat.le_of_not_lt fun hlt => ?_)
      have h1 : W.heap[g']? = some W.heap[g'] := Array.getElem?_eq_getElem hlt
      exact hn.apart 0 1 _ B' rfl rfl (by decide) (g', W.heap[g']) (mem_others.2 ⟨e, h1⟩) (g', o') (by rw [hB']; exact List.mem_cons_self ..) rfl
  have hlt := (Array.getElem?_eq_some_iff.1 hg).1
  have hlt' := (Array.getElem?_eq_some_iff.1 c1).1
  refine ⟨hb.os, hb.tape, hb.output, ?_, c1, at_, old⟩
  by_cases e : W.heap.size - 1 = g
  · rcases at_ with h | h <;> omega
  · have h1 := old (W.heap.size - 1) e (by omega)
    rw [Array.getElem?_eq_getElem (show W.heap.size - 1 < W.heap.size by omega)] at h1
    have := (Array.getElem?_eq_some_iff.1 h1).1
    omega
section
variable {r : Option Nat} {n : Nat} {P : Program} {W0 : World} {N : Nat} {D : List Deferred} {ops : List Oper} {Q : Exit → Act → World → Prop} {o : Oper} {rest : List Oper} {env : Env} {bxs : List Bx}
theorem calls_enterT {f : Nat} {fn : Func} {c : Code} {args : List Value} {X : Type} {val : X → Value} {Φ : X → Prop} {nb : X → List Bx} {W : World} (h0 : Hp W0 bxs W)
    (hf : P.funcs[f]? = some fn) (hb : fn.body = some c) (hN : fn.ntmps = N) (hl : Nat.ble args.length N = true)
    (h : WC none 0 P N [] c (RetQ P fn W0 val Φ nb) (argEnv 0 args) (Hp W0 bxs)) : Calls P f args.toArray W fun e W' => ∃ x, e = .returned (val x) ∧ Φ x ∧ Below W0.heap.size W0 W' ∧ NewBx W0 W' (nb x) := by
  have hl : args.length ≤ N := Nat.le_of_ble_eq_true hl
  have h1 := h.out { tmps := args.toArray ++ Array.replicate (fn.ntmps - args.toArray.size) undef, defers := [] } W (by simp [hN]; omega) rfl h0
  rw [ov_same] at h1
  · refine callsIn_wide (n := 0) |>.1 (callsIn_of_wp_marks hf hb trivial (wpIn_mono (Q := RetQ P fn W0 val Φ nb) h1 ?_))
    intro e a w h
    exact h.out
  · intro p hp _
    obtain ⟨_, h2⟩ := argEnv_mem args 0 p hp
    rw [Nat.sub_zero] at h2
    have hlt := (List.getElem?_eq_some_iff.1 h2).1
    rw [Array.getElem?_append_left (by simpa using hlt)]
    simpa using h2
theorem ne_ret0 {fn : Func} {T : Tbl} {X : Type} {val : X → Value} {Φ : X → Prop} {nb : X → List Bx} (hT : okB P T = true) (hr : fn.results = #[])
    (x : X) (hv : .tuple #[] = val x) (hx : Φ x) (hnb : ∀ W, Hp W0 bxs W → NewBx W0 W (nb x)) : NE N [] (RetQ P fn W0 val Φ nb) .ret env (Hp W0 bxs) :=
  ne_ret (rvs := []) (vs := []) hT hr rfl (fun i h _ => absurd h (Nat.not_lt_zero _)) x (by simpa using hv) hx hnb
/-- .. and where the code just ends. -/
theorem ne_end0 {fn : Func} {T : Tbl} {X : Type} {val : X → Value} {Φ : X → Prop} {nb : X → List Bx} (hT : okB P T = true) (hr : fn.results = #[])
    (x : X) (hv : .tuple #[] = val x) (hx : Φ x) (hnb : ∀ W, Hp W0 bxs W → NewBx W0 W (nb x)) : NE N [] (RetQ P fn W0 val Φ nb) .normal env (Hp W0 bxs) := .mk fun a W ha hd hp => by
  refine .mk ?_
  show LeavesInM (Fw none) 0 P fn (ov env a).tmps _ (ov env a).defers .returning W
  rw [ov_defers, hd]
  exact ⟨_, results_run (rvs := []) (vs := []) hT hr rfl (fun i h _ => absurd h (Nat.not_lt_zero _)) ha hp, x, by rw [← hv]; rfl, hx, hp.below, hnb W hp⟩
/-- A call that changes one listed block. -/
theorem wl_callN (k : Nat) {c : Call} {f : Operand} {g d : Nat} {capt vs : List Value} {X : Type} {val : X → Value} {Φ : X → Prop} {B : Bx} {L1 L2 : List (Nat × Obj)} {b : Nat} {ob : Obj} (B' : X → Bx) {g' : X → Nat} {o' : X → Obj}
    (hg : guardE ops N env o = some true) (hd : o.dst = some d) (ho : o.op = .call c) (hc : c.callee = .value f) (hf : evO N env f = some (.func (.func g) #[] capt.toArray)) (ha : evArgs (evO N env) c.args.toList = some vs) (hE : entersB P g = true)
    (hk : nth bxs k = some B) (hB : B.blk = L1 ++ (b, ob) :: L2) (hB' : ∀ x, Φ x → (B' x).blk = L1 ++ (g' x, o' x) :: L2)
    (hC : ∀ W, Hp W0 bxs W → Calls P g (vs ++ capt).toArray W fun e W' => ∃ x, e = .returned (val x) ∧ Φ x ∧ Near W W' b (g' x) (o' x))
    (h : ∀ x, Φ x → WL r n P N D ops Q rest ((d, val x) :: env) (Hp W0 (bxs.set k (B' x)))) : WL r n P N D ops Q (o :: rest) env (Hp W0 bxs) := .mk fun a W h1 h2 hp => by
  rw [nth_eq] at hk
  refine wl_step hg h1 (fun c e => by rw [ho] at e; cases e) ?_
  rw [call_run ho hc (evO_sound h1 _ _ hf) (arr_map (evO_sound h1) ha) hE]
  simp only [Oper.uponIn, hd]
  refine ⟨fun hx => (by cases hx), callsIn_of ((hC W hp).mono ?_)⟩
  rintro e W' ⟨x, rfl, hx, hN⟩
  exact (h x hx).out a W' h1 h2 (hp.near hk hB (hB' x hx) hN)
theorem wl_cvA {d : Nat} {t u : TypeId} {x : Operand} {k k' kt : IntKind} {z : Int} {A : World → Prop} (ht : P.underlying t = some (.int kt)) (hu : P.underlying u = some (.int k)) (hg : guardE ops N env o = some true) (hd : o.dst = some d) (ho : o.op = .convert t u x) (hx : evO N env x = some (.int k' z))
    (h : WL r n P N D ops Q rest ((d, .int k (k.wrap z)) :: env) A) : WL r n P N D ops Q (o :: rest) env A :=
  wl_val hg hd (fun c e => by rw [ho] at e; cases e) (fun ρ W hρ _ => by
    simp [execOp, ho, convert, hρ _ _ hx, run_underlying ht, run_underlying hu, Conv.intToInt]) h
theorem splice_mid (A B C X : List Value) (h : B.length = X.length) : splice (A ++ (B ++ C)) A.length X = A ++ (X ++ C) := by
  have h1 := splice_right A (B ++ C) 0 X
  rw [Nat.add_zero] at h1
  rw [h1]
  simp [splice, ← h]
end
end Go.Am
namespace Go.Proofs
open Go.Shelf
def Tryz.lays189_ren : Go.Shelf.Ren := ⟨fun | 189 => 35 | 125 => 85 | 257 => 84 | 128 => 138 | 129 => 139 | 294 => 129 | 295 => 130 | 296 => 131 | 297 => 132 | 298 => 133 | 299 => 134 | 216 => 135 | 300 => 136 | 301 => 137 | 328 => 165 | 329 => 166 | 330 => 167 | 331 => 168 | 332 => 169 | 215 => 170 | 343 => 213 | n => n, fun | 28 => 60 | 3 => 3 | 46 => 110 | 0 => 0 | 51 => 165 | 53 => 167 | 4 => 4 | 183 => 157 | 182 => 156 | 131 => 162 | 5 => 5 | 9 => 9 | 218 => 187 | 222 => 152 | 228 => 231 | 229 => 122 | n => n, fun | n => n⟩
theorem Tryz.lays189 : Go.Proofs.Lays.n189 Tryz.prog Tryz.lays189_ren := {
  mixed := by kernel_rfl
  f125 := Tryz.func85.trans (congrArg some (by kernel_rfl))
  f128 := Tryz.func138.trans (congrArg some (by kernel_rfl))
  f129 := Tryz.func139.trans (congrArg some (by kernel_rfl))
  f189 := Tryz.func35.trans (congrArg some (by kernel_rfl))
  f215 := Tryz.func170.trans (congrArg some (by kernel_rfl))
  f216 := Tryz.func135.trans (congrArg some (by kernel_rfl))
  f257 := Tryz.func84.trans (congrArg some (by kernel_rfl))
  f294 := Tryz.func129.trans (congrArg some (by kernel_rfl))
  f295 := Tryz.func130.trans (congrArg some (by kernel_rfl))
  f296 := Tryz.func131.trans (congrArg some (by kernel_rfl))
  f297 := Tryz.func132.trans (congrArg some (by kernel_rfl))
  f298 := Tryz.func133.trans (congrArg some (by kernel_rfl))
  f299 := Tryz.func134.trans (congrArg some (by kernel_rfl))
  f300 := Tryz.func136.trans (congrArg some (by kernel_rfl))
  f301 := Tryz.func137.trans (congrArg some (by kernel_rfl))
  f328 := Tryz.func165.trans (congrArg some (by kernel_rfl))
  f329 := Tryz.func166.trans (congrArg some (by kernel_rfl))
  f330 := Tryz.func167.trans (congrArg some (by kernel_rfl))
  f331 := Tryz.func168.trans (congrArg some (by kernel_rfl))
  f332 := Tryz.func169.trans (congrArg some (by kernel_rfl))
  f343 := Tryz.func213.trans (congrArg some (by kernel_rfl))
  t0 := Tryz.underlying0
  a0 := Tryz.isAgg0
  z0 := Tryz.sizeOf0
  v0 := Tryz.zeroValue0
  t3 := Tryz.underlying3
  a3 := Tryz.isAgg3
  z3 := Tryz.sizeOf3
  v3 := Tryz.zeroValue3
  t4 := Tryz.underlying4
  a4 := Tryz.isAgg4
  z4 := Tryz.sizeOf4
  v4 := Tryz.zeroValue4
  t5 := Tryz.underlying5
  a5 := Tryz.isAgg5
  z5 := Tryz.sizeOf5
  v5 := Tryz.zeroValue5
  t9 := Tryz.underlying9
  a9 := Tryz.isAgg9
  z9 := Tryz.sizeOf9
  v9 := Tryz.zeroValue9
  t28 := Tryz.underlying60
  a28 := Tryz.isAgg60
  z28 := Tryz.sizeOf60
  v28 := Tryz.zeroValue60
  t46 := Tryz.underlying110
  a46 := Tryz.isAgg110
  z46 := Tryz.sizeOf110
  v46 := Tryz.zeroValue110
  t51 := Tryz.underlying165
  a51 := Tryz.isAgg165
  z51 := Tryz.sizeOf165
  v51 := Tryz.zeroValue165
  t53 := Tryz.underlying167
  a53 := Tryz.isAgg167
  z53 := Tryz.sizeOf167
  v53 := Tryz.zeroValue167
  t131 := Tryz.underlying162
  a131 := Tryz.isAgg162
  z131 := Tryz.sizeOf162
  v131 := Tryz.zeroValue162
  t182 := Tryz.underlying156
  a182 := Tryz.isAgg156
  z182 := Tryz.sizeOf156
  v182 := Tryz.zeroValue156
  t183 := Tryz.underlying157
  a183 := Tryz.isAgg157
  z183 := Tryz.sizeOf157
  v183 := Tryz.zeroValue157
  t218 := Tryz.underlying187
  a218 := Tryz.isAgg187
  z218 := Tryz.sizeOf187
  v218 := Tryz.zeroValue187
  t222 := Tryz.underlying152
  a222 := Tryz.isAgg152
  z222 := Tryz.sizeOf152
  v222 := Tryz.zeroValue152
  t228 := Tryz.underlying231
  a228 := Tryz.isAgg231
  z228 := Tryz.sizeOf231
  v228 := Tryz.zeroValue231
  t229 := Tryz.underlying122
  a229 := Tryz.isAgg122
  z229 := Tryz.sizeOf122
  v229 := Tryz.zeroValue122 }
end Go.Proofs
namespace Go.Proofs.YtnpfkmbcejgnjaaGreatDoor
open Go Go.RowKit Go.Am Go.Lib
set_option maxRecDepth 10000
abbrev ci (l : List Int) : List Value := l.map (Value.int .i64)
theorem set_same_get {α : Type} {l : List α} {k : Nat} {x : α} (h : l[k]? = some x) : l.set k x = l := by
  obtain ⟨h1, rfl⟩ := List.getElem?_eq_some_iff.1 h
  exact List.set_getElem_self h1
section
variable {r : Option Nat} {n : Nat} {W0 : World} {N : Nat} {D : List Deferred} {ops : List Oper} {Q : Exit → Act → World → Prop} {o : Oper} {rest : List Oper} {env : Env} {bxs : List Bx}
end
/-- A number of a row. -/
theorem ci_at {l : List Int} {g : Nat} {e : TypeId} {junk : List Value} {W0 W : World} {bxs : List Bx} (hp : Hp W0 bxs W) (k : Nat) (hk : nth bxs k = some ⟨g, e, ci l ++ junk, true, none⟩) {i : Nat} (hi : i < l.length) : RowAt W g (0 + i * 1) [.int .i64 (l.getD i 0)] := by
  have h := RowAt.of_bx hp k hk rfl
  refine ⟨h.lt, fun j u hu => ?_⟩
  have hj : j = 0 := by have := (List.getElem?_eq_some_iff.1 hu).1; simp at this; omega
  subst hj
  have := h.get (i * 1 + 0) u (by
    show (ci l ++ junk)[i * 1 + 0]? = some u
    rw [show i * 1 + 0 = i by omega, List.getElem?_append_left (by simpa using hi), List.getElem?_map, List.getElem?_eq_getElem hi, ← hu, List.getD_eq_getElem?_getD, List.getElem?_eq_getElem hi]; rfl)
  rw [Nat.zero_add] at this ⊢
  exact this
end Go.Proofs.YtnpfkmbcejgnjaaGreatDoor
