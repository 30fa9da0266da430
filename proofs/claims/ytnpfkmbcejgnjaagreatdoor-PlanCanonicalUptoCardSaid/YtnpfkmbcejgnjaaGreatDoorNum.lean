/-
  Small integers as strings: Check, Gcd, Divide of package integer at numerals; rational.Of of an even number and 2.
-/
import Derived.Test.YtnpfkmbcejgnjaaGreatDoorShelf
import Derived.Test.YtnpfkmbcejgnjaaGreatDoorDigits
import Derived.Test.YtnpfkmbcejgnjaaGreatDoorTab
import Derived.Test.YtnpfkmbcejgnjaaGreatDoorAo
import Derived.Lib.AppendIntMem
import Derived.Lib.ItoaLen
import Derived.Laws.Strings
namespace Go.Proofs.YtnpfkmbcejgnjaaGreatDoor
open Go Go.RowKit Go.Am Go.Lib
set_option maxRecDepth 10000
-- BOXES 3
abbrev str (l : List UInt8) : Value := .string ⟨l.toArray⟩
theorem CallsR.of1 {P : Program} {g : Nat} {args : Array Value} {W : World} {v : Value} (h : Calls P g args W fun e w' => e = .returned v ∧ Below W.heap.size W w') : CallsR P g args W (fun _ : Unit => v) (fun _ => True) (fun _ => []) :=
  ⟨h.mono fun _ _ ⟨he, hb⟩ => ⟨(), he, trivial, hb, NewBx.nil _ _⟩⟩
/-- The library's table of powers of ten is laid. -/
def TabP (W : World) : Prop := TabIs Tryz.prog W "internal/strconv.uint64pow10" .u64 pow10Tab
theorem TabP.hp {W0 W : World} {bxs : List Bx} (h : TabP W0) (hp : Hp W0 bxs W) : TabP W := tabBelow_of_tabIs h W hp.below
theorem below_grow (w : World) (k : Nat) (os : Array Obj) : Below w.heap.size w (Sort.grow (w.drewN k) os) := by
  refine ⟨rfl, rfl, rfl, by simp [Sort.grow, World.drewN], fun i hi => ?_⟩
  simp only [Sort.grow, World.drewN]
  rw [Array.getElem?_append_left hi]
theorem itoa_gives (n : Int) (h0 : -9223372036854775808 ≤ n) (h1 : n ≤ 9223372036854775807) (W : World) (ht : TabP W) : CallsR Tryz.prog 78 #[.int .i64 n] W (fun _ : Unit => str (itoa n)) (fun _ => True) (fun _ => []) := by
  refine CallsR.of1 ((Tryz.strconv_Itoa n h0 h1 W ht).mono ?_)
  rintro e w' ⟨rfl, k, os, rfl⟩
  exact ⟨rfl, below_grow W k os⟩
theorem atoi_gives (n : Int) (h0 : -4611686018427387904 < n) (h1 : n < 4611686018427387904) : Gives Tryz.prog 128 [str (itoa n)] (.tuple #[.int .i64 n, .nilIface]) := by
  intro W
  refine CallsR.of1 ((Tryz.strconv_Atoi_ok ⟨(itoa n).toArray⟩ ?_ n (by simpa using atoi_itoa n h0 h1) W).mono ?_)
  · have := itoa_length_le n (by omega) (by omega)
    show (itoa n).toArray.size ≤ _
    rw [List.size_toArray]; omega
  · rintro e w' ⟨rfl, rfl | ⟨t, rfl⟩⟩
    · exact ⟨rfl, Below.refl _ _⟩
    · exact ⟨rfl, bytesWorld_below _ _ _⟩
theorem prefix_gives (l p : List UInt8) : Gives Tryz.prog 140 [str l, str p] (.bool (hasPrefix l p)) := by
  intro W
  refine CallsR.of1 ((Tryz.strings_HasPrefix ⟨l.toArray⟩ ⟨p.toArray⟩ W).mono ?_)
  rintro e w' ⟨rfl, rfl⟩
  exact ⟨rfl, Below.refl _ _⟩
theorem trimPrefix_gives (l p : List UInt8) : Gives Tryz.prog 226 [str l, str p] (str (trimPrefix l p)) := by
  intro W
  refine CallsR.of1 ((Tryz.strings_TrimPrefix ⟨l.toArray⟩ ⟨p.toArray⟩ W).mono ?_)
  rintro e w' ⟨rfl, rfl⟩
  exact ⟨rfl, Below.refl _ _⟩
theorem trim_gives (l : List UInt8) (hl : l.length ≤ 9223372036854775807) : Gives Tryz.prog 252 [str l, str tenDigits] (str (trimS l tenDigits)) := by
  intro W
  refine CallsR.of1 ((Any.strings_Trim_laid Tryz.lays160 (by kernel_rfl) ⟨l.toArray⟩ ⟨tenDigits.toArray⟩ W ?_ (by decide) ?_).mono ?_)
  · show l.toArray.size ≤ _
    rw [List.size_toArray]; exact hl
  · intro j b hb
    have hm : b ∈ tenDigits := List.mem_of_getElem? hb
    have : ∀ x ∈ tenDigits, x.toNat < 128 := by decide
    exact this b hm
  · rintro e w' ⟨rfl, hb⟩
    exact ⟨rfl, hb⟩
section
variable {r : Option Nat} {n : Nat} {P : Program} {W0 : World} {N : Nat} {D : List Deferred} {ops : List Oper} {Q : Exit → Act → World → Prop} {o : Oper} {rest : List Oper} {env : Env} {A : World → Prop}
/-- A byte of a string. -/
theorem wl_byte {T : Tbl} {i : TI} {d : Nat} {t : TypeId} {x y : Operand} {k : IntKind} {l : List UInt8} {z : Int} (j : Nat) {b : UInt8} (hT : okB P T = true) (hg : guardE ops N env o = some true) (hd : o.dst = some d) (ho : o.op = .index t x y) (ht : find T t = some i) (hk : i.kind = 1)
    (hx : evO N env x = some (str l)) (hy : evO N env y = some (.int k z)) (hz : z = j) (hb : l[j]? = some b)
    (h : WL r n P N D ops Q rest ((d, .int .u8 b.toNat) :: env) A) : WL r n P N D ops Q (o :: rest) env A :=
  wl_val hg hd (fun c e => by rw [ho] at e; cases e) (fun ρ W hρ _ => by
    have hu := row_kind1 (find_row hT ht) hk
    subst hz
    have hb' : (⟨l.toArray⟩ : ByteArray)[j]? = some b := by
      obtain ⟨h1, h2⟩ := List.getElem?_eq_some_iff.1 hb
      have h3 : j < (⟨l.toArray⟩ : ByteArray).size := by show j < l.toArray.size; rw [List.size_toArray]; exact h1
      rw [getElem?_pos _ j h3]
      exact congrArg some h2
    simp [execOp, ho, Instr.index, hρ _ _ hx, hρ _ _ hy, asIntOf, run_underlying hu, hb']) h
end
theorem bytes_list (l : List UInt8) : (⟨l.toArray⟩ : ByteArray).toList = l := by rw [ByteArray.toList_eq]
theorem itoa_len (n : Int) (h0 : -100000000000000000 < n) (h1 : n < 100000000000000000) : (itoa n).length ≤ 18 := by
  unfold itoa
  split
  · have := dd_len 17 n.natAbs (by omega) (by omega)
    rw [List.length_cons]; omega
  · have := dd_len 17 n.toNat (by omega) (by omega)
    omega
theorem itoa_zero : itoa 0 = [48] := by unfold itoa; rw [if_neg (by omega)]; exact dd_zero
set_option maxHeartbeats 4000000 in
theorem intCheck_gives (n : Int) (h0 : -100000000000000000 < n) (h1 : n < 100000000000000000) : Gives Tryz.prog 215 [str (itoa n)] (.int .i64 0) := by
  intro W
  refine calls_enter Tryz.func215 rfl rfl rfl ?_
  refine zA ?_
  refine zB ?_
  refine wl_pure Tryz.hT rfl rfl rfl ?_
  refine wl_nil ?_
  refine zE ?_
  refine zA ?_
  refine zB ?_
  refine wl_pure Tryz.hT rfl rfl rfl ?_
  refine wl_call1 rfl rfl rfl rfl rfl rfl (by kernel_rfl) (fun W _ => trimPrefix_gives (itoa n) [45] W) ?_
  refine wl_upd 5 (str (decDigits n.natAbs)) rfl (by rw [trimPrefix_itoa]) ?_
  refine wl_pure Tryz.hT rfl rfl rfl ?_
  refine wl_nil ?_
  refine zE ?_
  refine zA ?_
  refine zA ?_
  refine zB ?_
  refine wl_pure Tryz.hT rfl rfl rfl ?_
  refine wl_pure Tryz.hT rfl rfl rfl ?_
  obtain ⟨b, rest, hd, hb1, hb2⟩ := first_digit n.natAbs
  have hne : ((⟨(decDigits n.natAbs).toArray⟩ : ByteArray).toList == (⟨#[]⟩ : ByteArray).toList) = false := by
    rw [bytes_list, bytes_list []]; simp [dd_ne]
  refine wl_upd 7 (.bool false) rfl (congrArg Value.bool hne) ?_
  refine wl_pure Tryz.hT rfl rfl rfl ?_
  refine wl_pure Tryz.hT rfl rfl rfl ?_
  refine wl_byte 0 Tryz.hT rfl rfl rfl rfl rfl rfl rfl rfl (by rw [hd]; rfl) ?_
  refine wl_pure Tryz.hT rfl rfl rfl ?_
  have hlen := dd_len 17 n.natAbs (by omega) (by omega)
  have hlen63 : (decDigits n.natAbs).length ≤ 9223372036854775807 := by omega
  by_cases hn : n = 0
  · have hb : b.toNat = 48 := by
      rw [hn, show Int.natAbs 0 = 0 from rfl, dd_zero] at hd
      injection hd with hd _
      rw [← hd]; rfl
    refine wl_upd 11 (.bool true) rfl (congrArg Value.bool (by rw [hb]; rfl)) ?_
    refine wl_pure Tryz.hT rfl rfl rfl ?_
    refine wl_pure Tryz.hT rfl rfl rfl ?_
    refine wl_pure Tryz.hT rfl rfl rfl ?_
    refine wl_upd 14 (.bool false) rfl (congrArg Value.bool (by rw [hn, itoa_zero]; simp)) ?_
    refine wl_pure Tryz.hT rfl rfl rfl ?_
    refine wl_pure Tryz.hT rfl rfl rfl ?_
    refine wl_pure Tryz.hT rfl rfl rfl ?_
    refine wl_pure Tryz.hT rfl rfl rfl ?_
    refine wl_call1 rfl rfl rfl rfl rfl rfl (by kernel_rfl) (fun W _ => trim_gives (decDigits n.natAbs) hlen63 W) ?_
    refine wl_upd 19 (str []) rfl (by rw [trim_dd]) ?_
    refine wl_pure Tryz.hT rfl rfl rfl ?_
    refine wl_upd 20 (.bool false) rfl (congrArg Value.bool (by simp)) ?_
    refine wl_pure Tryz.hT rfl rfl rfl ?_
    refine wl_nil ?_
    refine zE ?_
    refine zS rfl ?_
    refine zI ?_
    refine zE ?_
    refine zA ?_
    refine zA ?_
    refine zB ?_
    refine wl_pure Tryz.hT rfl rfl rfl ?_
    refine wl_pure Tryz.hT rfl rfl rfl ?_
    refine wl_pure Tryz.hT rfl rfl rfl ?_
    refine wl_nil ?_
    refine ne_then ?_
    refine wc_upd 24 (.bool false) rfl (congrArg Value.bool (by
      show decide (((⟨(decDigits n.natAbs).toArray⟩ : ByteArray).size : Int) > 300) = false
      have e : (⟨(decDigits n.natAbs).toArray⟩ : ByteArray).size = (decDigits n.natAbs).length := by show (decDigits n.natAbs).toArray.size = _; simp
      rw [e, decide_eq_false_iff_not]; omega)) ?_
    refine zS rfl ?_
    refine zI ?_
    refine zE ?_
    refine zA ?_
    refine zB ?_
    refine wl_pure Tryz.hT rfl rfl rfl ?_
    refine wl_nil ?_
    refine zE ?_
    refine zO ?_
    exact ne_ret1 Tryz.hT rfl (.tmp rfl) () rfl trivial fun W _ => NewBx.nil _ _
  · have hb : b.toNat ≠ 48 := by
      obtain ⟨b', r', e1, e2⟩ := dd_head n.natAbs (by omega)
      rw [hd] at e1
      injection e1 with e1 _
      rw [e1]; exact e2
    refine wl_upd 11 (.bool false) rfl (congrArg Value.bool (by rw [beq_eq_false_iff_ne]; omega)) ?_
    refine wl_pure Tryz.hT rfl rfl rfl ?_
    refine wl_skip rfl rfl ?_
    refine wl_skip rfl rfl ?_
    refine wl_pure Tryz.hT rfl rfl rfl ?_
    refine wl_pure Tryz.hT rfl rfl rfl ?_
    refine wl_pure Tryz.hT rfl rfl rfl ?_
    refine wl_pure Tryz.hT rfl rfl rfl ?_
    refine wl_call1 rfl rfl rfl rfl rfl rfl (by kernel_rfl) (fun W _ => trim_gives (decDigits n.natAbs) hlen63 W) ?_
    refine wl_upd 19 (str []) rfl (by rw [trim_dd]) ?_
    refine wl_pure Tryz.hT rfl rfl rfl ?_
    refine wl_upd 20 (.bool false) rfl (congrArg Value.bool (by simp)) ?_
    refine wl_pure Tryz.hT rfl rfl rfl ?_
    refine wl_nil ?_
    refine zE ?_
    refine zS rfl ?_
    refine zI ?_
    refine zE ?_
    refine zA ?_
    refine zA ?_
    refine zB ?_
    refine wl_pure Tryz.hT rfl rfl rfl ?_
    refine wl_pure Tryz.hT rfl rfl rfl ?_
    refine wl_pure Tryz.hT rfl rfl rfl ?_
    refine wl_nil ?_
    refine ne_then ?_
    refine wc_upd 24 (.bool false) rfl (congrArg Value.bool (by
      show decide (((⟨(decDigits n.natAbs).toArray⟩ : ByteArray).size : Int) > 300) = false
      have e : (⟨(decDigits n.natAbs).toArray⟩ : ByteArray).size = (decDigits n.natAbs).length := by show (decDigits n.natAbs).toArray.size = _; simp
      rw [e, decide_eq_false_iff_not]; omega)) ?_
    refine zS rfl ?_
    refine zI ?_
    refine zE ?_
    refine zA ?_
    refine zB ?_
    refine wl_pure Tryz.hT rfl rfl rfl ?_
    refine wl_nil ?_
    refine zE ?_
    refine zO ?_
    exact ne_ret1 Tryz.hT rfl (.tmp rfl) () rfl trivial fun W _ => NewBx.nil _ _
theorem both_gives (a b : Int) (ha0 : -100000000000000000 < a) (ha1 : a < 100000000000000000) (hb0 : -100000000000000000 < b) (hb1 : b < 100000000000000000) : Gives Tryz.prog 173 [str (itoa a), str (itoa b)] (.int .i64 0) := by
  intro W
  refine calls_enter Tryz.func173 rfl rfl rfl ?_
  refine zA ?_
  refine zB ?_
  refine wl_pure Tryz.hT rfl rfl rfl ?_
  refine wl_nil ?_
  refine zE ?_
  refine zA ?_
  refine zA ?_
  refine zB ?_
  refine wl_pure Tryz.hT rfl rfl rfl ?_
  refine wl_call1 rfl rfl rfl rfl rfl rfl (by kernel_rfl) (fun W _ => intCheck_gives a ha0 ha1 W) ?_
  refine wl_pure Tryz.hT rfl rfl rfl ?_
  refine wl_nil ?_
  refine zE ?_
  refine zA ?_
  refine zB ?_
  refine wl_pure Tryz.hT rfl rfl rfl ?_
  refine wl_pure Tryz.hT rfl rfl rfl ?_
  refine wl_nil ?_
  refine zE ?_
  refine zS rfl ?_
  refine zI ?_
  refine zE ?_
  refine zA ?_
  refine zB ?_
  refine wl_pure Tryz.hT rfl rfl rfl ?_
  refine wl_call1 rfl rfl rfl rfl rfl rfl (by kernel_rfl) (fun W _ => intCheck_gives b hb0 hb1 W) ?_
  refine wl_pure Tryz.hT rfl rfl rfl ?_
  refine wl_nil ?_
  refine zE ?_
  refine zO ?_
  exact ne_ret1 Tryz.hT rfl (.tmp rfl) () rfl trivial fun W _ => NewBx.nil _ _
theorem nil_eq_run (W : World) : (binOp .eql 96 .nilIface .nilIface).run Tryz.prog W = .ok (.bool true) W := by
  simp only [binOp, Op.equal, Op.maxDepth]
  rw [show (10000 : Nat) = 9999 + 1 from rfl]
  unfold Op.equalIn
  simp only [Sem.run_bind, run_underlying Tryz.underlying96, Result.andThen_ok, Sem.run_pure]
section
variable {N : Nat} {D : List Deferred} {ops : List Oper} {o : Oper} {rest : List Oper} {env : Env} {A A2 : World → Prop} {R : Act → World → Prop}
theorem wq_nilErr {d : Nat} {u : TypeId} {x : Operand} {c : Value} (hg : guardE ops N env o = some true) (hd : o.dst = some d) (ho : o.op = .binOp .eql 96 x (.const c) u) (hc : c = .nilIface)
    (hx : evO N env x = some .nilIface) (h : WQ Tryz.prog N D ops A2 R rest ((d, .bool true) :: env) A) : WQ Tryz.prog N D ops A2 R (o :: rest) env A :=
  wq_val hg hd (fun c e => by rw [ho] at e; cases e) (fun ρ W hρ _ => by
    subst hc
    have hgd : (eqGuard .eql 96 x (.const .nilIface) .nilIface .nilIface).run Tryz.prog W = .ok () W := by rw [eqGuard_nil_constR]; rfl
    have h2 : ρ (.const .nilIface) = .nilIface := hρ _ _ rfl
    simp only [execOp, ho, hρ _ _ hx, h2, Sem.run_bind, hgd, nil_eq_run W, Result.andThen_ok, Sem.run_pure]) h
end
theorem str_size (l : List UInt8) : (⟨l.toArray⟩ : ByteArray).size = l.length := by show l.toArray.size = _; simp
theorem small_gives (a b : Int) (ha0 : -100000000000000000 < a) (ha1 : a < 100000000000000000) (hb0 : -100000000000000000 < b) (hb1 : b < 100000000000000000) : Gives Tryz.prog 174 [str (itoa a), str (itoa b), .int .i64 18] (.tuple #[.int .i64 a, .int .i64 b, .bool true]) := by
  intro W
  have hla := itoa_len a ha0 ha1
  have hlb := itoa_len b hb0 hb1
  refine calls_enter Tryz.func174 rfl rfl rfl ?_
  refine zA ?_
  refine zB ?_
  refine wl_pure Tryz.hT rfl rfl rfl ?_
  refine wl_pure Tryz.hT rfl rfl rfl ?_
  refine wl_pure Tryz.hT rfl rfl rfl ?_
  refine wl_nil ?_
  refine zE ?_
  refine zA ?_
  refine zA ?_
  refine zB ?_
  refine wl_pure Tryz.hT rfl rfl rfl ?_
  refine wl_pure Tryz.hT rfl rfl rfl ?_
  refine wl_pure Tryz.hT rfl rfl rfl ?_
  refine wl_pure Tryz.hT rfl rfl rfl ?_
  refine wl_upd 16 (.bool false) rfl (congrArg Value.bool (by show decide (((⟨(itoa a).toArray⟩ : ByteArray).size : Int) > 18) = false; rw [str_size, decide_eq_false_iff_not]; omega)) ?_
  refine wl_pure Tryz.hT rfl rfl rfl ?_
  refine wl_pure Tryz.hT rfl rfl rfl ?_
  refine wl_pure Tryz.hT rfl rfl rfl ?_
  refine wl_pure Tryz.hT rfl rfl rfl ?_
  refine wl_pure Tryz.hT rfl rfl rfl ?_
  refine wl_upd 21 (.bool false) rfl (congrArg Value.bool (by show decide (((⟨(itoa b).toArray⟩ : ByteArray).size : Int) > 18) = false; rw [str_size, decide_eq_false_iff_not]; omega)) ?_
  refine wl_pure Tryz.hT rfl rfl rfl ?_
  refine wl_nil ?_
  refine zE ?_
  refine zS rfl ?_
  refine zI ?_
  refine zE ?_
  refine zA ?_
  refine zB ?_
  refine wl_pure Tryz.hT rfl rfl rfl ?_
  refine wl_call1 rfl rfl rfl rfl rfl rfl (by kernel_rfl) (fun W _ => atoi_gives a (by omega) (by omega) W) ?_
  refine wl_pure Tryz.hT rfl rfl rfl ?_
  refine wl_pure Tryz.hT rfl rfl rfl ?_
  refine wl_pure Tryz.hT rfl rfl rfl ?_
  refine wl_pure Tryz.hT rfl rfl rfl ?_
  refine wl_pure Tryz.hT rfl rfl rfl ?_
  refine wl_nil ?_
  refine zE ?_
  refine zA ?_
  refine zB ?_
  refine wl_pure Tryz.hT rfl rfl rfl ?_
  refine wl_call1 rfl rfl rfl rfl rfl rfl (by kernel_rfl) (fun W _ => atoi_gives b (by omega) (by omega) W) ?_
  refine wl_pure Tryz.hT rfl rfl rfl ?_
  refine wl_pure Tryz.hT rfl rfl rfl ?_
  refine wl_pure Tryz.hT rfl rfl rfl ?_
  refine wl_pure Tryz.hT rfl rfl rfl ?_
  refine wl_pure Tryz.hT rfl rfl rfl ?_
  refine wl_nil ?_
  refine zE ?_
  refine zA ?_
  refine zT Tryz.mixed (by kernel_rfl) ?_
  refine wq_pure Tryz.hT rfl rfl rfl ?_
  refine wq_pure Tryz.hT rfl rfl rfl ?_
  refine wq_pure Tryz.hT rfl rfl rfl ?_
  refine wq_nilErr rfl rfl rfl rfl rfl ?_
  refine wq_pure Tryz.hT rfl rfl rfl ?_
  refine wq_pure Tryz.hT rfl rfl rfl ?_
  refine wq_nilErr rfl rfl rfl rfl rfl ?_
  refine wq_pure Tryz.hT rfl rfl rfl ?_
  refine wq_pure Tryz.hT rfl rfl rfl ?_
  refine wq_pure Tryz.hT rfl rfl rfl ?_
  refine wq_pure Tryz.hT rfl rfl rfl ?_
  refine wq_nil ?_
  refine wl_nil ?_
  refine zE ?_
  refine zO ?_
  exact ne_ret3 Tryz.hT rfl (.tmp rfl) (.tmp rfl) (.tmp rfl) () rfl trivial fun W _ => NewBx.nil _ _
theorem itoa_small {n : Nat} (h : n < 10) : itoa (n : Nat) = [UInt8.ofNat (48 + n)] := by
  unfold itoa
  rw [if_neg (by omega)]
  exact decDigits_one h
theorem itoa_inj {a b : Int} (h1 : -4611686018427387904 < a) (h2 : a < 4611686018427387904) (h3 : -4611686018427387904 < b) (h4 : b < 4611686018427387904) (h : itoa a = itoa b) : a = b := by
  have e1 := atoi_itoa a h1 h2
  rw [h, atoi_itoa b h3 h4] at e1
  injection e1 with e1
  exact e1.symm
set_option maxHeartbeats 4000000 in
theorem gcd2_gives (k : Int) (h0 : -10000000000000000 < k) (h1 : k < 10000000000000000) (W : World) (ht : TabP W) : CallsR Tryz.prog 142 #[str (itoa (2 * k)), str (itoa 2)] W (fun _ : Unit => .tuple #[str (itoa 2), .int .i64 0]) (fun _ => True) (fun _ => []) := by
  refine calls_enter (args := [str (itoa (2 * k)), str (itoa 2)]) Tryz.func142 rfl rfl rfl ?_
  refine zA ?_
  refine zB ?_
  refine wl_pure Tryz.hT rfl rfl rfl ?_
  refine wl_pure Tryz.hT rfl rfl rfl ?_
  refine wl_nil ?_
  refine zE ?_
  refine zA ?_
  refine zA ?_
  refine zB ?_
  refine wl_pure Tryz.hT rfl rfl rfl ?_
  refine wl_pure Tryz.hT rfl rfl rfl ?_
  refine wl_call1 rfl rfl rfl rfl rfl rfl (by kernel_rfl) (fun W _ => both_gives (2 * k) 2 (by omega) (by omega) (by omega) (by omega) W) ?_
  refine wl_pure Tryz.hT rfl rfl rfl ?_
  refine wl_nil ?_
  refine zE ?_
  refine zA ?_
  refine zB ?_
  refine wl_pure Tryz.hT rfl rfl rfl ?_
  refine wl_pure Tryz.hT rfl rfl rfl ?_
  refine wl_nil ?_
  refine zE ?_
  refine zS rfl ?_
  refine zI ?_
  refine zE ?_
  refine zA ?_
  refine zA ?_
  refine zB ?_
  refine wl_pure Tryz.hT rfl rfl rfl ?_
  refine wl_pure Tryz.hT rfl rfl rfl ?_
  refine wl_call1 rfl rfl rfl rfl rfl rfl (by kernel_rfl) (fun W _ => small_gives (2 * k) 2 (by omega) (by omega) (by omega) (by omega) W) ?_
  refine wl_pure Tryz.hT rfl rfl rfl ?_
  refine wl_pure Tryz.hT rfl rfl rfl ?_
  refine wl_pure Tryz.hT rfl rfl rfl ?_
  refine wl_pure Tryz.hT rfl rfl rfl ?_
  refine wl_pure Tryz.hT rfl rfl rfl ?_
  refine wl_pure Tryz.hT rfl rfl rfl ?_
  refine wl_pure Tryz.hT rfl rfl rfl ?_
  refine wl_nil ?_
  refine zE ?_
  refine zA ?_
  refine zB ?_
  refine wl_pure Tryz.hT rfl rfl rfl ?_
  refine wl_nil ?_
  refine zE ?_
  refine zR rfl ?_
  refine zA ?_
  refine zH ?_
  refine wc_loop (X := Bool) (fun x => [(4, str []), (7, .int .i64 (if x then 2 * k else 2)), (8, .int .i64 (if x then 2 else 0))]) (fun _ => []) (fun _ => True) (fun x => if x then 1 else 0) true trivial ⟨rfl, rfl, rfl, trivial⟩ [] rfl ?_
  intro x _
  cases x with
  | true =>
    refine zA ?_
    refine zA ?_
    refine zB ?_
    refine wl_pure Tryz.hT rfl rfl rfl ?_
    refine wl_pure Tryz.hT rfl rfl rfl ?_
    refine wl_nil ?_
    refine zE ?_
    refine zR rfl ?_
    refine zI ?_
    refine zE ?_
    refine zH ?_
    refine zT Tryz.mixed (by kernel_rfl) ?_
    refine wq_pure Tryz.hT rfl rfl rfl ?_
    refine wq_pure Tryz.hT rfl rfl rfl ?_
    refine wq_pure Tryz.hT rfl rfl rfl ?_
    refine wq_rem rfl rfl rfl rfl rfl (by decide) ?_
    have e : (2 * k).tmod 2 = 0 := by rw [Int.mul_comm]; exact Int.mul_tmod_left ..
    refine wq_upd 33 (.int .i64 0) rfl (congrArg (Value.int .i64) e) ?_
    refine wq_pure Tryz.hT rfl rfl rfl ?_
    refine wq_pure Tryz.hT rfl rfl rfl ?_
    refine wq_nil ?_
    refine wl_nil ?_
    refine zN ?_
    exact ne_loop false trivial (by decide) ⟨rfl, rfl, rfl, trivial⟩ [] rfl
  | false =>
    refine zA ?_
    refine zA ?_
    refine zB ?_
    refine wl_pure Tryz.hT rfl rfl rfl ?_
    refine wl_pure Tryz.hT rfl rfl rfl ?_
    refine wl_nil ?_
    refine zE ?_
    refine zS rfl ?_
    refine zJ ?_
    refine zK ?_
    refine zK ?_
    refine zL ?_
    refine zE ?_
    refine zA ?_
    refine zB ?_
    refine wl_pure Tryz.hT rfl rfl rfl ?_
    refine wl_pure Tryz.hT rfl rfl rfl ?_
    refine wl_pure Tryz.hT rfl rfl rfl ?_
    refine wl_pure Tryz.hT rfl rfl rfl ?_
    refine wl_call1 rfl rfl rfl rfl rfl rfl (by kernel_rfl) (fun W hp => itoa_gives 2 (by decide) (by decide) W (ht.hp hp)) ?_
    refine wl_pure Tryz.hT rfl rfl rfl ?_
    refine wl_pure Tryz.hT rfl rfl rfl ?_
    refine wl_nil ?_
    refine zE ?_
    refine zO ?_
    refine zP ?_
    exact ne_ret2 Tryz.hT rfl (.tmp rfl) (.tmp rfl) () rfl trivial fun W _ => NewBx.nil _ _
set_option maxHeartbeats 4000000 in
theorem divide_gives (q b : Int) (hb : b ≠ 0) (hq0 : -10000000000000000 < q) (hq1 : q < 10000000000000000) (hb0 : -100000000000000000 < b) (hb1 : b < 100000000000000000) (ha0 : -100000000000000000 < b * q) (ha1 : b * q < 100000000000000000) (W : World) (ht : TabP W) :
    CallsR Tryz.prog 143 #[str (itoa (b * q)), str (itoa b)] W (fun _ : Unit => .tuple #[str (itoa q), str (itoa 0), .int .i64 0]) (fun _ => True) (fun _ => []) := by
  refine calls_enter (args := [str (itoa (b * q)), str (itoa b)]) Tryz.func143 rfl rfl rfl ?_
  refine zA ?_
  refine zB ?_
  refine wl_pure Tryz.hT rfl rfl rfl ?_
  refine wl_pure Tryz.hT rfl rfl rfl ?_
  refine wl_pure Tryz.hT rfl rfl rfl ?_
  refine wl_nil ?_
  refine zE ?_
  refine zA ?_
  refine zA ?_
  refine zB ?_
  refine wl_pure Tryz.hT rfl rfl rfl ?_
  refine wl_pure Tryz.hT rfl rfl rfl ?_
  refine wl_call1 rfl rfl rfl rfl rfl rfl (by kernel_rfl) (fun W _ => both_gives (b * q) b ha0 ha1 hb0 hb1 W) ?_
  refine wl_pure Tryz.hT rfl rfl rfl ?_
  refine wl_nil ?_
  refine zE ?_
  refine zA ?_
  refine zB ?_
  refine wl_pure Tryz.hT rfl rfl rfl ?_
  refine wl_pure Tryz.hT rfl rfl rfl ?_
  refine wl_nil ?_
  refine zE ?_
  refine zS rfl ?_
  refine zI ?_
  refine zE ?_
  refine zA ?_
  refine zA ?_
  refine zB ?_
  refine wl_pure Tryz.hT rfl rfl rfl ?_
  refine wl_pure Tryz.hT rfl rfl rfl ?_
  refine wl_upd 28 (.bool false) rfl (congrArg Value.bool (by
    rw [bytes_list, bytes_list [48], beq_eq_false_iff_ne]
    intro e
    exact hb (itoa_inj (by omega) (by omega) (by omega) (by omega) (e.trans itoa_zero.symm)))) ?_
  refine wl_nil ?_
  refine zE ?_
  refine zS rfl ?_
  refine zI ?_
  refine zE ?_
  refine zA ?_
  refine zA ?_
  refine zB ?_
  refine wl_pure Tryz.hT rfl rfl rfl ?_
  refine wl_pure Tryz.hT rfl rfl rfl ?_
  refine wl_call1 rfl rfl rfl rfl rfl rfl (by kernel_rfl) (fun W _ => small_gives (b * q) b ha0 ha1 hb0 hb1 W) ?_
  refine wl_pure Tryz.hT rfl rfl rfl ?_
  refine wl_pure Tryz.hT rfl rfl rfl ?_
  refine wl_pure Tryz.hT rfl rfl rfl ?_
  refine wl_pure Tryz.hT rfl rfl rfl ?_
  refine wl_pure Tryz.hT rfl rfl rfl ?_
  refine wl_pure Tryz.hT rfl rfl rfl ?_
  refine wl_pure Tryz.hT rfl rfl rfl ?_
  refine wl_nil ?_
  refine zE ?_
  refine zA ?_
  refine zB ?_
  refine wl_pure Tryz.hT rfl rfl rfl ?_
  refine wl_nil ?_
  refine zE ?_
  refine zR rfl ?_
  refine zA ?_
  refine zT Tryz.mixed (by kernel_rfl) ?_
  refine wq_pure Tryz.hT rfl rfl rfl ?_
  refine wq_pure Tryz.hT rfl rfl rfl ?_
  refine wq_quo rfl rfl rfl rfl rfl hb ?_
  refine wq_upd 39 (.int .i64 q) rfl (congrArg (Value.int .i64) (by rw [Int.mul_tdiv_cancel_left _ hb]; exact wrap_id (by omega) (by omega))) ?_
  refine wq_pure Tryz.hT rfl rfl rfl ?_
  refine wq_pure Tryz.hT rfl rfl rfl ?_
  refine wq_rem rfl rfl rfl rfl rfl hb ?_
  refine wq_upd 42 (.int .i64 0) rfl (congrArg (Value.int .i64) (by rw [Int.mul_comm]; exact Int.mul_tmod_left ..)) ?_
  refine wq_pure Tryz.hT rfl rfl rfl ?_
  refine wq_pure Tryz.hT rfl rfl rfl ?_
  refine wq_nil ?_
  refine wl_nil ?_
  refine zE ?_
  refine zA ?_
  refine zA ?_
  refine zB ?_
  refine wl_pure Tryz.hT rfl rfl rfl ?_
  refine wl_pure Tryz.hT rfl rfl rfl ?_
  refine wl_pure Tryz.hT rfl rfl rfl ?_
  refine wl_skip rfl rfl ?_
  refine wl_skip rfl rfl ?_
  refine wl_skip rfl rfl ?_
  refine wl_skip rfl rfl ?_
  refine wl_skip rfl rfl ?_
  refine wl_pure Tryz.hT rfl rfl rfl ?_
  refine wl_nil ?_
  refine zE ?_
  refine zS rfl ?_
  refine zI ?_
  refine zE ?_
  refine zA ?_
  refine zB ?_
  refine wl_pure Tryz.hT rfl rfl rfl ?_
  refine wl_call1 rfl rfl rfl rfl rfl rfl (by kernel_rfl) (fun W hp => itoa_gives q (by omega) (by omega) W (ht.hp hp)) ?_
  refine wl_pure Tryz.hT rfl rfl rfl ?_
  refine wl_call1 rfl rfl rfl rfl rfl rfl (by kernel_rfl) (fun W hp => itoa_gives 0 (by decide) (by decide) W (ht.hp hp)) ?_
  refine wl_pure Tryz.hT rfl rfl rfl ?_
  refine wl_pure Tryz.hT rfl rfl rfl ?_
  refine wl_pure Tryz.hT rfl rfl rfl ?_
  refine wl_nil ?_
  refine zE ?_
  refine zO ?_
  refine zP ?_
  exact ne_ret3 Tryz.hT rfl (.tmp rfl) (.tmp rfl) (.tmp rfl) () rfl trivial fun W _ => NewBx.nil _ _
theorem itoa_one : itoa 1 = [49] := itoa_small (n := 1) (by decide)
theorem itoa_two : itoa 2 = [50] := itoa_small (n := 2) (by decide)
set_option maxHeartbeats 4000000 in
theorem number2_gives (k : Int) (h0 : -10000000000000000 < k) (h1 : k < 10000000000000000) (W : World) (ht : TabP W) : CallsR Tryz.prog 86 #[str (itoa (2 * k)), str (itoa 2)] W (fun _ : Unit => .tuple #[str (itoa k), .int .i64 0]) (fun _ => True) (fun _ => []) := by
  refine calls_enter (args := [str (itoa (2 * k)), str (itoa 2)]) Tryz.func86 rfl rfl rfl ?_
  refine zA ?_
  refine zB ?_
  refine wl_pure Tryz.hT rfl rfl rfl ?_
  refine wl_pure Tryz.hT rfl rfl rfl ?_
  refine wl_nil ?_
  refine zE ?_
  refine zA ?_
  refine zA ?_
  refine zB ?_
  refine wl_pure Tryz.hT rfl rfl rfl ?_
  refine wl_call1 rfl rfl rfl rfl rfl rfl (by kernel_rfl) (fun W _ => prefix_gives (itoa 2) [45] W) ?_
  refine wl_upd 9 (.bool false) rfl (congrArg Value.bool (by rw [itoa_two]; decide)) ?_
  refine wl_nil ?_
  refine zE ?_
  refine zS rfl ?_
  refine zI ?_
  refine zE ?_
  refine zA ?_
  refine zB ?_
  refine wl_pure Tryz.hT rfl rfl rfl ?_
  refine wl_pure Tryz.hT rfl rfl rfl ?_
  refine wl_call1 rfl rfl rfl rfl rfl rfl (by kernel_rfl) (fun W hp => gcd2_gives k h0 h1 W (ht.hp hp)) ?_
  refine wl_pure Tryz.hT rfl rfl rfl ?_
  refine wl_pure Tryz.hT rfl rfl rfl ?_
  refine wl_pure Tryz.hT rfl rfl rfl ?_
  refine wl_pure Tryz.hT rfl rfl rfl ?_
  refine wl_pure Tryz.hT rfl rfl rfl ?_
  refine wl_nil ?_
  refine zE ?_
  refine zA ?_
  refine zA ?_
  refine zB ?_
  refine wl_pure Tryz.hT rfl rfl rfl ?_
  refine wl_pure Tryz.hT rfl rfl rfl ?_
  refine wl_nil ?_
  refine zE ?_
  refine zS rfl ?_
  refine zI ?_
  refine zE ?_
  refine zA ?_
  refine zA ?_
  refine zB ?_
  refine wl_pure Tryz.hT rfl rfl rfl ?_
  refine wl_pure Tryz.hT rfl rfl rfl ?_
  refine wl_upd 24 (.bool true) rfl (congrArg Value.bool (by rw [bytes_list, bytes_list [49], itoa_two]; decide)) ?_
  refine wl_nil ?_
  refine zE ?_
  refine zR rfl ?_
  refine zA ?_
  refine zB ?_
  refine wl_pure Tryz.hT rfl rfl rfl ?_
  refine wl_pure Tryz.hT rfl rfl rfl ?_
  refine wl_call1 rfl rfl rfl rfl rfl rfl (by kernel_rfl) (fun W hp => divide_gives k 2 (by decide) (by omega) (by omega) (by decide) (by decide) (by omega) (by omega) W (ht.hp hp)) ?_
  refine wl_pure Tryz.hT rfl rfl rfl ?_
  refine wl_pure Tryz.hT rfl rfl rfl ?_
  refine wl_pure Tryz.hT rfl rfl rfl ?_
  refine wl_pure Tryz.hT rfl rfl rfl ?_
  refine wl_pure Tryz.hT rfl rfl rfl ?_
  refine wl_nil ?_
  refine zE ?_
  refine zB ?_
  refine wl_pure Tryz.hT rfl rfl rfl ?_
  refine wl_pure Tryz.hT rfl rfl rfl ?_
  refine wl_call1 rfl rfl rfl rfl rfl rfl (by kernel_rfl) (fun W hp => (divide_gives 1 2 (by decide) (by decide) (by decide) (by decide) (by decide) (by decide) (by decide) W (ht.hp hp))) ?_
  refine wl_pure Tryz.hT rfl rfl rfl ?_
  refine wl_pure Tryz.hT rfl rfl rfl ?_
  refine wl_pure Tryz.hT rfl rfl rfl ?_
  refine wl_pure Tryz.hT rfl rfl rfl ?_
  refine wl_pure Tryz.hT rfl rfl rfl ?_
  refine wl_nil ?_
  refine zE ?_
  refine zA ?_
  refine zA ?_
  refine zB ?_
  refine wl_pure Tryz.hT rfl rfl rfl ?_
  refine wl_pure Tryz.hT rfl rfl rfl ?_
  refine wl_upd 40 (.bool true) rfl (congrArg Value.bool (by rw [bytes_list, bytes_list [49], itoa_one]; decide)) ?_
  refine wl_nil ?_
  refine zE ?_
  refine zR rfl ?_
  refine zA ?_
  refine zB ?_
  refine wl_pure Tryz.hT rfl rfl rfl ?_
  refine wl_pure Tryz.hT rfl rfl rfl ?_
  refine wl_pure Tryz.hT rfl rfl rfl ?_
  refine wl_nil ?_
  refine zE ?_
  refine zO ?_
  refine zP ?_
  exact ne_ret2 Tryz.hT rfl (.tmp rfl) (.tmp rfl) () rfl trivial fun W _ => NewBx.nil _ _
theorem of2_gives (k : Int) (h0 : -10000000000000000 < k) (h1 : k < 10000000000000000) (W : World) (ht : TabP W) : CallsR Tryz.prog 37 #[.int .i64 (2 * k), .int .i64 2] W (fun _ : Unit => .tuple #[str (itoa k), .int .i64 0]) (fun _ => True) (fun _ => []) := by
  refine calls_enter (args := [.int .i64 (2 * k), .int .i64 2]) Tryz.func37 rfl rfl rfl ?_
  refine zA ?_
  refine zB ?_
  refine wl_pure Tryz.hT rfl rfl rfl ?_
  refine wl_pure Tryz.hT rfl rfl rfl ?_
  refine wl_nil ?_
  refine zE ?_
  refine zA ?_
  refine zA ?_
  refine zB ?_
  refine wl_pure Tryz.hT rfl rfl rfl ?_
  refine wl_nil ?_
  refine zE ?_
  refine zH ?_
  refine zA ?_
  refine zB ?_
  refine wl_pure Tryz.hT rfl rfl rfl ?_
  refine wl_pure Tryz.hT rfl rfl rfl ?_
  refine wl_nil ?_
  refine zE ?_
  refine zS rfl ?_
  refine zA ?_
  refine zB ?_
  refine wl_pure Tryz.hT rfl rfl rfl ?_
  refine wl_pure Tryz.hT rfl rfl rfl ?_
  refine wl_nil ?_
  refine zE ?_
  refine zS rfl ?_
  refine zI ?_
  refine zN ?_
  refine zE ?_
  refine zA ?_
  refine zB ?_
  refine wl_pure Tryz.hT rfl rfl rfl ?_
  refine wl_call1 rfl rfl rfl rfl rfl rfl (by kernel_rfl) (fun W hp => itoa_gives (2 * k) (by omega) (by omega) W (ht.hp hp)) ?_
  refine wl_pure Tryz.hT rfl rfl rfl ?_
  refine wl_call1 rfl rfl rfl rfl rfl rfl (by kernel_rfl) (fun W hp => itoa_gives 2 (by decide) (by decide) W (ht.hp hp)) ?_
  refine wl_call1 rfl rfl rfl rfl rfl rfl (by kernel_rfl) (fun W hp => number2_gives k h0 h1 W (ht.hp hp)) ?_
  refine wl_pure Tryz.hT rfl rfl rfl ?_
  refine wl_pure Tryz.hT rfl rfl rfl ?_
  refine wl_pure Tryz.hT rfl rfl rfl ?_
  refine wl_pure Tryz.hT rfl rfl rfl ?_
  refine wl_nil ?_
  refine zE ?_
  refine zO ?_
  exact ne_ret2 Tryz.hT rfl (.tmp rfl) (.tmp rfl) () rfl trivial fun W _ => NewBx.nil _ _
end Go.Proofs.YtnpfkmbcejgnjaaGreatDoor
