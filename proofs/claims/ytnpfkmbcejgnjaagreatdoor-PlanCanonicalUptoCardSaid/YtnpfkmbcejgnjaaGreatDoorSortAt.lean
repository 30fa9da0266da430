/-
  Rows of numbers that a call of the library changes in place: sorted; compacted.
-/
import Derived.Test.YtnpfkmbcejgnjaaGreatDoorAp
import Derived.Test.YtnpfkmbcejgnjaaGreatDoorSortLays
import Derived.Test.YtnpfkmbcejgnjaaGreatDoorNum
import Derived.Lib.SlicesCompact
import Derived.Sort.Grow
namespace Go.Proofs.YtnpfkmbcejgnjaaGreatDoor
open Go Go.RowKit Go.Am Go.Lib
set_option maxRecDepth 10000
abbrev ci (l : List Int) : List Value := l.map (Value.int .i64)
theorem bang_toArray {l : List Int} {j : Nat} (h : j < l.length) : l.toArray[j]! = l[j] := by
  rw [getElem!_pos l.toArray j (by simpa using h)]; simp
theorem ci_get {l : List Int} {j : Nat} (h : j < l.length) (junk : List Value) : (ci l ++ junk)[j]? = some (.int .i64 l.toArray[j]!) := by
  rw [List.getElem?_append_left (by simpa using h), List.getElem?_map, List.getElem?_eq_getElem h, bang_toArray h]; rfl
theorem holds_row {W : World} {g : Nat} {zs : List Int} {junk : List Value} {ty : TypeId} (h : W.heap[g]? = some (.cells (ci zs ++ junk).toArray ty (0, 0))) : Sort.Holds (Value.int .i64) W g 0 zs.toArray := fun j hj => by
  have hj' : j < zs.length := by simpa using hj
  have h1 := ci_get hj' junk
  constructor
  · simp only [World.cell?, h, Nat.zero_add]
    rw [List.getElem?_toArray]; exact h1
  · simp [World.frozen?, h]
theorem putCells_row {zs zs' : List Int} (hl : zs'.length = zs.length) (junk : List Value) : Sort.putCells (Value.int .i64) 0 zs'.toArray (ci zs ++ junk).toArray = (ci zs' ++ junk).toArray := by
  apply Array.ext_getElem?
  intro k
  simp only [Sort.putCells, Array.getElem?_mapIdx, List.getElem?_toArray, List.size_toArray, Nat.zero_add, Nat.sub_zero, Nat.zero_le, true_and]
  by_cases hk : k < zs.length
  · rw [ci_get hk, ci_get (show k < zs'.length by omega), Option.map_some, if_pos (by omega)]
  · rw [List.getElem?_append_right (by simp; omega), List.getElem?_append_right (by simp; omega)]
    simp only [List.length_map, hl]
    cases junk[k - zs.length]? with
    | none => rfl
    | some y => rw [Option.map_some, if_neg (by omega)]
theorem putRow_near {W : World} {g : Nat} {zs zs' : List Int} {junk : List Value} {ty : TypeId} (h : W.heap[g]? = some (.cells (ci zs ++ junk).toArray ty (0, 0))) (hl : zs'.length = zs.length) (n : Nat) (os : Array Obj) :
    Near W (Sort.grow (Sort.putRow (Value.int .i64) (Sort.ahead W n) g 0 zs'.toArray) os) g g (.cells (ci zs' ++ junk).toArray ty (0, 0)) := by
  have hlt : g < W.heap.size := (Array.getElem?_eq_some_iff.1 h).1
  have hs : ∀ x, x < W.heap.size → (Sort.grow (Sort.putRow (Value.int .i64) (Sort.ahead W n) g 0 zs'.toArray) os).heap[x]? = (W.heap.modify g (Sort.onCells (Sort.putCells (Value.int .i64) 0 zs'.toArray)))[x]? := fun x hx => by
    show (W.heap.modify g _ ++ os)[x]? = _
    rw [Array.getElem?_append_left (by simpa using hx)]
  refine ⟨rfl, rfl, rfl, ?_, ?_, .inl rfl, fun x hx hlt' => ?_⟩
  · show W.heap.size ≤ (W.heap.modify g _ ++ os).size
    simp
  · rw [hs g hlt, Array.getElem?_modify, if_pos rfl, h, Option.map_some]
    show some (Obj.cells (Sort.putCells _ _ _ _) _ _) = _
    rw [putCells_row hl]
  · rw [hs x hlt', Array.getElem?_modify, if_neg (fun e => hx e.symm)]
/-- The numbers in order. -/
def srt (zs : List Int) : List Int := zs.mergeSort fun x y => decide (x ≤ y)
theorem srt_perm (zs : List Int) : (srt zs).Perm zs := List.mergeSort_perm ..
theorem srt_len (zs : List Int) : (srt zs).length = zs.length := (srt_perm zs).length_eq
theorem srt_sorted (zs : List Int) : (srt zs).Pairwise (· ≤ ·) := by
  have h := List.pairwise_mergeSort (le := fun x y : Int => decide (x ≤ y)) (fun a b c h1 h2 => by simp at *; omega) (fun a b => by simp; omega) zs
  exact h.imp fun h => by simpa using h
theorem compact_facts {d : Array Int} : ∀ m, m ≤ d.size → (∀ i j : Nat, i ≤ j → j < m → d[i]! ≤ d[j]!) → (Lib.compactUpTo d m).Pairwise (· < ·) ∧ (∀ e ∈ Lib.compactUpTo d m, ∃ j, j < m ∧ e = d[j]!) ∧ (∀ j, j < m → d[j]! ∈ Lib.compactUpTo d m)
  | 0, _, _ => ⟨by simp [Lib.compactUpTo], by simp [Lib.compactUpTo], fun j h => absurd h (Nat.not_lt_zero _)⟩
  | m + 1, hm, hs => by
    obtain ⟨h1, h2, h3⟩ := compact_facts m (by omega) fun i j h h' => hs i j h (by omega)
    rw [Lib.compactUpTo_succ]
    by_cases hk : Lib.keeps d m = true
    · rw [if_pos hk]
      refine ⟨List.pairwise_append.2 ⟨h1, List.pairwise_singleton .., fun a ha b hb => ?_⟩, fun e he => ?_, fun j hj => ?_⟩
      · obtain rfl := List.mem_singleton.1 hb
        obtain ⟨j, hj, rfl⟩ := h2 a ha
        have h4 := hs j (m - 1) (by omega) (by omega)
        have h5 := hs (m - 1) m (by omega) (by omega)
        unfold Lib.keeps at hk
        rw [decide_eq_true_iff] at hk
        omega
      · rcases List.mem_append.1 he with he | he
        · obtain ⟨j, hj, e⟩ := h2 e he
          exact ⟨j, by omega, e⟩
        · exact ⟨m, by omega, List.mem_singleton.1 he⟩
      · by_cases e : j = m
        · subst e; exact List.mem_append_right _ (List.mem_singleton.2 rfl)
        · exact List.mem_append_left _ (h3 j (by omega))
    · rw [if_neg hk, List.append_nil]
      refine ⟨h1, fun e he => ?_, fun j hj => ?_⟩
      · obtain ⟨j, hj, e⟩ := h2 e he
        exact ⟨j, by omega, e⟩
      · by_cases e : j = m
        · subst e
          unfold Lib.keeps at hk
          rw [decide_eq_true_iff] at hk
          have : d[j]! = d[j - 1]! := by
            refine Classical.byContradiction fun hn => hk (.inr hn)
          rw [this]
          exact h3 (j - 1) (by omega)
        · exact h3 j (by omega)
/-- Sorted numbers, each once. -/
def lvs (zs : List Int) : List Int := Lib.compact (srt zs)
theorem lvs_facts (zs : List Int) : (lvs zs).Pairwise (· < ·) ∧ (∀ e, e ∈ lvs zs ↔ e ∈ zs) ∧ (lvs zs).length ≤ zs.length := by
  have hs := srt_sorted zs
  have hm : ∀ i j : Nat, i ≤ j → j < (srt zs).length → (srt zs).toArray[i]! ≤ (srt zs).toArray[j]! := fun i j h h' => by
    rw [bang_toArray h', bang_toArray (show i < _ by omega)]
    by_cases e : i = j
    · subst e; exact Int.le_refl _
    · exact List.pairwise_iff_getElem.1 hs i j (by omega) h' (by omega)
  obtain ⟨h1, h2, h3⟩ := compact_facts (d := (srt zs).toArray) (srt zs).length (by simp) hm
  refine ⟨h1, fun e => ⟨fun he => ?_, fun he => ?_⟩, ?_⟩
  · obtain ⟨j, hj, rfl⟩ := h2 e he
    rw [bang_toArray hj]
    exact (srt_perm zs).mem_iff.1 (List.getElem_mem hj)
  · obtain ⟨j, hj, e2⟩ := List.getElem_of_mem ((srt_perm zs).mem_iff.2 he)
    have := h3 j hj
    rw [bang_toArray hj, e2] at this
    exact this
  · rw [← srt_len zs]
    unfold lvs Lib.compact Lib.compactUpTo
    rw [List.length_map]
    exact Nat.le_trans (List.length_filter_le ..) (by simp)
theorem sort_gives {W : World} {g cap : Nat} {zs : List Int} {junk : List Value} {ty : TypeId} (h : W.heap[g]? = some (.cells (ci zs ++ junk).toArray ty (0, 0))) (hn : zs.length < 4611686018427387904) :
    Calls Tryz.prog 35 #[.slice (some ⟨g, 0, none⟩) zs.length cap] W fun e W' => ∃ x : Unit, e = .returned ((fun _ => .tuple #[]) x) ∧ True ∧ Near W W' g ((fun _ => g) x) ((fun _ => .cells (ci (srt zs) ++ junk).toArray ty (0, 0)) x) := by
  refine (Tryz.slices_Sort_int g 0 cap zs W (holds_row h) (Array.getElem?_eq_some_iff.1 h).1 hn).mono ?_
  rintro e W' ⟨rfl, n, os, rfl⟩
  exact ⟨(), rfl, trivial, putRow_near h (srt_len zs) n os⟩
theorem sort0_gives (W : World) (p : Option Addr) (cap : Nat) : CallsR Tryz.prog 35 #[.slice p 0 cap] W (fun _ : Unit => .tuple #[]) (fun _ => True) (fun _ => []) := by
  refine CallsR.of1 ((Tryz.slices_Sort_int_none p cap W).mono ?_)
  rintro e w' ⟨rfl, rfl⟩
  exact ⟨rfl, Below.refl _ _⟩
theorem set_same_get {α : Type} {l : List α} {k : Nat} {x : α} (h : l[k]? = some x) : l.set k x = l := by
  obtain ⟨h1, rfl⟩ := List.getElem?_eq_some_iff.1 h
  exact List.set_getElem_self h1
section
variable {r : Option Nat} {n : Nat} {W0 : World} {N : Nat} {D : List Deferred} {ops : List Oper} {Q : Exit → Act → World → Prop} {o : Oper} {rest : List Oper} {env : Env} {bxs : List Bx}
/-- slices.Sort of numbers that were appended (none of them, perhaps). -/
theorem wl_sortV (k : Nat) {c : Call} {f : Operand} {d : Nat} {V : Vec} {zs : List Int} {len : Nat}
    (hg : guardE ops N env o = some true) (hd : o.dst = some d) (ho : o.op = .call c) (hc : c.callee = .value f) (hf : evO N env f = some (.func (.func 35) #[] #[])) (ha : evArgs (evO N env) c.args.toList = some [V.val len])
    (hk : nth bxs k = some (V.bx 3 (ci zs))) (hlen : len = zs.length) (hV : V.OK 1 len (ci zs)) (hn : zs.length < 4611686018427387904)
    (h : WL r n Tryz.prog N D ops Q rest ((d, .tuple #[]) :: env) (Hp W0 (bxs.set k (V.bx 3 (ci (srt zs)))))) : WL r n Tryz.prog N D ops Q (o :: rest) env (Hp W0 bxs) := by
  subst hlen
  obtain ⟨p, cap, junk⟩ := V
  cases p with
  | none =>
    have hz := hV.nil rfl
    have e : bxs.set k ((⟨none, cap, junk⟩ : Vec).bx 3 (ci (srt zs))) = bxs := by
      have h1 : bxs[k]? = some ((⟨none, cap, junk⟩ : Vec).bx 3 (ci zs)) := by rw [← nth_eq]; exact hk
      exact set_same_get h1
    rw [e] at h
    refine wl_call1 (g := 35) (capt := []) hg hd ho hc hf ha (by kernel_rfl) (fun W _ => ?_) h
    exact sort0_gives W none 0
  | some g =>
    refine wl_callN (X := Unit) (val := fun _ => .tuple #[]) (Φ := fun _ => True) (capt := []) k (B := ⟨g, 3, ci zs ++ junk, true, none⟩) (L1 := []) (L2 := []) (b := g) (ob := .cells (ci zs ++ junk).toArray 3 (0, 0)) (fun _ => ⟨g, 3, ci (srt zs) ++ junk, true, none⟩) (g' := fun _ => g) (o' := fun _ => .cells (ci (srt zs) ++ junk).toArray 3 (0, 0))
      hg hd ho hc hf ha (by kernel_rfl) hk rfl (fun _ _ => rfl) (fun W hp => ?_) (fun _ _ => h)
    have hk' : bxs[k]? = some ⟨g, 3, ci zs ++ junk, true, none⟩ := by rw [← nth_eq]; exact hk
    exact sort_gives (hp.own.cell k _ hk' (g, .cells (ci zs ++ junk).toArray 3 (0, 0)) (List.mem_cons_self ..)).1 hn
end
theorem compact_gives {W : World} {g cap : Nat} {zs : List Int} {junk : List Value} {ty : TypeId} (h : W.heap[g]? = some (.cells (ci (srt zs) ++ junk).toArray ty (0, 0))) (hn : zs.length ≤ 9223372036854775807) (hcap : zs.length ≤ cap) :
    Calls Tryz.prog 36 #[.slice (some ⟨g, 0, none⟩) zs.length cap] W fun e W' => ∃ x : Unit, e = .returned ((fun _ => .slice (some ⟨g, 0, none⟩) (lvs zs).length cap) x) ∧ True ∧
      Near W W' g ((fun _ => g) x) ((fun _ => .cells (ci (lvs zs) ++ (ci (List.replicate (zs.length - (lvs zs).length) 0) ++ junk)).toArray ty (0, 0)) x) := by
  have hl := srt_len zs
  have hm := (lvs_facts zs).2.2
  have h1 := Tryz.slices_Compact_int g 0 cap (srt zs) W (holds_row h) (by omega) (by omega)
  rw [hl] at h1
  refine h1.mono ?_
  rintro e W' ⟨rfl, n, rfl⟩
  refine ⟨(), rfl, trivial, ?_⟩
  have h2 := putRow_near (zs' := lvs zs ++ List.replicate (zs.length - (lvs zs).length) 0) h (by rw [List.length_append, List.length_replicate, hl]; omega) n #[]
  rw [Sort.grow_empty] at h2
  have e : ci (lvs zs ++ List.replicate (zs.length - (lvs zs).length) 0) ++ junk = ci (lvs zs) ++ (ci (List.replicate (zs.length - (lvs zs).length) 0) ++ junk) := by
    rw [← List.append_assoc]; congr 1; exact List.map_append
  rw [e] at h2
  exact h2
/-- A number of a row. -/
theorem ci_at {l : List Int} {g : Nat} {e : TypeId} {junk : List Value} {W0 W : World} {bxs : List Bx} (hp : Hp W0 bxs W) (k : Nat) (hk : nth bxs k = some ⟨g, e, ci l ++ junk, true, none⟩) {i : Nat} (hi : i < l.length) : RowAt W g (0 + i * 1) [.int .i64 (l.getD i 0)] := by
  have h := RowAt.of_bx hp k hk rfl
  refine ⟨h.lt, fun j u hu => ?_⟩
  have hj : j = 0 := by have := (List.getElem?_eq_some_iff.1 hu).1; simp at this; omega
  subst hj
  have := h.get (i * 1 + 0) u (by
    show (ci l ++ junk)[i * 1 + 0]? = some u
    rw [show i * 1 + 0 = i by omega, List.getElem?_append_left (by simpa using hi), List.getElem?_map, List.getElem?_eq_getElem hi, ← hu, List.getD_eq_getElem?_getD, List.getElem?_eq_getElem hi]; rfl)
  rw [Nat.zero_add] at this ⊢
  exact this
theorem of1_gives (k : Int) (h0 : -9223372036854775808 ≤ k) (h1 : k ≤ 9223372036854775807) (W : World) (ht : TabP W) : CallsR Tryz.prog 37 #[.int .i64 k, .int .i64 1] W (fun _ : Unit => .tuple #[str (itoa k), .int .i64 0]) (fun _ => True) (fun _ => []) := by
  refine calls_enter (args := [.int .i64 k, .int .i64 1]) Tryz.func37 rfl rfl rfl ?_
  repeat (first | refine zA ?_ | refine zB ?_ | refine zC ?_ | refine zD ?_ | refine zE ?_ | refine zF ?_ | refine zG ?_ | refine zH ?_ | refine zI ?_ | refine zJ ?_ | refine zK ?_ | refine zL ?_ | refine zM rfl ?_ | refine zN ?_ | refine zO ?_ | refine zP ?_ | refine zQ ?_ | refine zR rfl ?_ | refine zS rfl ?_ | refine zT Tryz.mixed (by kernel_rfl) ?_)
  refine wl_pure Tryz.hT rfl rfl rfl ?_
  refine wl_pure Tryz.hT rfl rfl rfl ?_
  refine wl_nil ?_
  repeat (first | refine zA ?_ | refine zB ?_ | refine zC ?_ | refine zD ?_ | refine zE ?_ | refine zF ?_ | refine zG ?_ | refine zH ?_ | refine zI ?_ | refine zJ ?_ | refine zK ?_ | refine zL ?_ | refine zM rfl ?_ | refine zN ?_ | refine zO ?_ | refine zP ?_ | refine zQ ?_ | refine zR rfl ?_ | refine zS rfl ?_ | refine zT Tryz.mixed (by kernel_rfl) ?_)
  refine wl_pure Tryz.hT rfl rfl rfl ?_
  refine wl_nil ?_
  repeat (first | refine zA ?_ | refine zB ?_ | refine zC ?_ | refine zD ?_ | refine zE ?_ | refine zF ?_ | refine zG ?_ | refine zH ?_ | refine zI ?_ | refine zJ ?_ | refine zK ?_ | refine zL ?_ | refine zM rfl ?_ | refine zN ?_ | refine zO ?_ | refine zP ?_ | refine zQ ?_ | refine zR rfl ?_ | refine zS rfl ?_ | refine zT Tryz.mixed (by kernel_rfl) ?_)
  refine wl_pure Tryz.hT rfl rfl rfl ?_
  refine wl_pure Tryz.hT rfl rfl rfl ?_
  refine wl_nil ?_
  repeat (first | refine zA ?_ | refine zB ?_ | refine zC ?_ | refine zD ?_ | refine zE ?_ | refine zF ?_ | refine zG ?_ | refine zH ?_ | refine zI ?_ | refine zJ ?_ | refine zK ?_ | refine zL ?_ | refine zM rfl ?_ | refine zN ?_ | refine zO ?_ | refine zP ?_ | refine zQ ?_ | refine zR rfl ?_ | refine zS rfl ?_ | refine zT Tryz.mixed (by kernel_rfl) ?_)
  refine wl_pure Tryz.hT rfl rfl rfl ?_
  refine wl_pure Tryz.hT rfl rfl rfl ?_
  refine wl_nil ?_
  repeat (first | refine zA ?_ | refine zB ?_ | refine zC ?_ | refine zD ?_ | refine zE ?_ | refine zF ?_ | refine zG ?_ | refine zH ?_ | refine zI ?_ | refine zJ ?_ | refine zK ?_ | refine zL ?_ | refine zM rfl ?_ | refine zN ?_ | refine zO ?_ | refine zP ?_ | refine zQ ?_ | refine zR rfl ?_ | refine zS rfl ?_ | refine zT Tryz.mixed (by kernel_rfl) ?_)
  refine wl_pure Tryz.hT rfl rfl rfl ?_
  refine wl_call1 rfl rfl rfl rfl rfl rfl (by kernel_rfl) (fun W hp => itoa_gives k h0 h1 W (ht.hp hp)) ?_
  refine wl_pure Tryz.hT rfl rfl rfl ?_
  refine wl_pure Tryz.hT rfl rfl rfl ?_
  refine wl_nil ?_
  repeat (first | refine zA ?_ | refine zB ?_ | refine zC ?_ | refine zD ?_ | refine zE ?_ | refine zF ?_ | refine zG ?_ | refine zH ?_ | refine zI ?_ | refine zJ ?_ | refine zK ?_ | refine zL ?_ | refine zM rfl ?_ | refine zN ?_ | refine zO ?_ | refine zP ?_ | refine zQ ?_ | refine zR rfl ?_ | refine zS rfl ?_ | refine zT Tryz.mixed (by kernel_rfl) ?_)
  exact ne_ret2 Tryz.hT rfl (.tmp rfl) (.tmp rfl) () rfl trivial fun W _ => NewBx.nil _ _
end Go.Proofs.YtnpfkmbcejgnjaaGreatDoor
