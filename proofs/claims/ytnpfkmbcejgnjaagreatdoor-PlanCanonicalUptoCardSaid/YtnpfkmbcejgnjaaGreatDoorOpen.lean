/-
  A plan as an argument: what its reading says of memory, and of its bulk.
-/
import Derived.Test.YtnpfkmbcejgnjaaGreatDoorCheck
import Derived.Test.YtnpfkmbcejgnjaaGreatDoorConcat
import Derived.Test.YtnpfkmbcejgnjaaGreatDoorRows
import Derived.Deep.Slices
import Derived.ChangeArms
import Derived.ChangeShapes
import Derived.WideShapes
import Derived.Carry
namespace Go.Proofs.YtnpfkmbcejgnjaaGreatDoor
open Go Go.RowKit Go.Am Go.ChangeShapes Go.WideShapes Go.Deep
set_option maxRecDepth 10000
theorem c42 : Tryz.prog.cellsOf 42 = 7 := by kernel_rfl
theorem c27 : Tryz.prog.cellsOf 27 = 1 := by kernel_rfl
theorem c24 : Tryz.prog.cellsOf 24 = 1 := by kernel_rfl
theorem c22 : Tryz.prog.cellsOf 22 = 1 := by kernel_rfl
theorem c3 : Tryz.prog.cellsOf 3 = 1 := by kernel_rfl
theorem c4 : Tryz.prog.cellsOf 4 = 1 := by kernel_rfl
/-! ### Bulk -/
theorem bulk_one {H : Type} (d : DataW H) : 1 ≤ Rows.uptoBulk d := by
  cases d with
  | lit l => cases l <;> simp [Rows.uptoBulk]
  | nil => simp [Rows.uptoBulk]
  | ptr d => simp [Rows.uptoBulk]
  | slice elems spare => simp [Rows.uptoBulk]
  | agg parts => simp [Rows.uptoBulk]
  | iface t d => simp [Rows.uptoBulk]
  | map entries => simp [Rows.uptoBulk]
  | held h => simp [Rows.uptoBulk]
theorem bulk_part {H : Type} {d : DataW H} {l : List (DataW H)} (h : d ∈ l) : Rows.uptoBulk d ≤ Rows.uptoBulkAll l := by
  induction l with
  | nil => cases h
  | cons x r ih =>
    simp only [Rows.uptoBulkAll]
    rcases List.mem_cons.1 h with e | e
    · subst e; omega
    · have := ih e; omega
theorem bulk_len {H : Type} (l : List (DataW H)) : l.length ≤ Rows.uptoBulkAll l := by
  induction l with
  | nil => simp [Rows.uptoBulkAll]
  | cons x r ih => have := bulk_one x; simp only [Rows.uptoBulkAll, List.length_cons]; omega
theorem bulk_sum {H : Type} {A : Type} (L : A → Nat) (D : A → DataW H) (is : List A) (h : ∀ i, i ∈ is → L i + 1 ≤ Rows.uptoBulk (D i)) :
    (is.map L).sum + is.length ≤ Rows.uptoBulkAll (is.map D) := by
  induction is with
  | nil => simp [Rows.uptoBulkAll]
  | cons x r ih =>
    have h1 := h x (.head _)
    have h2 := ih fun i hi => h i (.tail _ hi)
    simp only [List.map_cons, List.sum_cons, List.length_cons, Rows.uptoBulkAll]
    omega
theorem bulk_slice {H : Type} (e s : List (DataW H)) : Rows.uptoBulkAll e + 1 ≤ Rows.uptoBulk (.slice e s) := by
  simp only [Rows.uptoBulk]; omega
/-! ### Memory -/
theorem cell_plain {w : World} {a : Addr} {v : Value} (h : w.cell? a = some v) : a.spot = none ∧ a.block < w.heap.size := by
  unfold World.cell? at h
  split at h
  · rename_i hb
    refine ⟨?_, ?_⟩
    · cases hs : a.spot with
      | none => rfl
      | some k => simp [hs] at h
    · exact (Array.getElem?_eq_some_iff.1 hb).1
  · cases h
theorem open_row {w : World} {base n : Nat} {a : Addr} {cs : List Value} (h : w.cells? base a n = some cs) (hn : 0 < n) : a.spot = none ∧ RowAt w a.block a.off cs := by
  obtain ⟨_, hl, hg⟩ := World.cells?_some h
  have h0 := hg 0 hn
  have hv : cs[0]? = some cs[0] := List.getElem?_eq_getElem (by omega)
  rw [hv] at h0
  have hp := cell_plain h0
  have hs : a.spot = none := by simpa [Addr.add] using hp.1
  refine ⟨hs, ⟨by simpa [Addr.add] using hp.2, fun j x hx => ?_⟩⟩
  have hj : j < n := by rw [← hl]; exact (List.getElem?_eq_some_iff.1 hx).1
  rw [← hx, ← hg j hj]
  congr 1
  unfold Addr.add
  split
  · subst_vars; cases a; simp_all
  · rfl
theorem add_off {a : Addr} (hs : a.spot = none) (n : Nat) : a.add n = ⟨a.block, a.off + n, none⟩ := by
  unfold Addr.add
  split
  · subst_vars; cases a; simp_all
  · rfl
/-- A side whose whole numbers are whole numbers of the language. -/
def Sd.in64 (s : Sd) : Prop := ∀ z ∈ [s.x, s.y, s.rise, s.run, s.plate, s.over], -9223372036854775808 ≤ z ∧ z ≤ 9223372036854775807
section
variable {H : Type} {enc : TypeId × Value → H} {w : World} {base : Nat} {spare : Nat → Bool} {held : Bool} {fuel : Nat} {cs : List Value} {x : DataW H × List MemPlace}
theorem open_sd (h : DataW.trod enc Tryz.prog w base spare held fuel 42 cs = some x) : ∃ s : Sd, cs = s.cells ∧ s.in64 := by
  obtain ⟨xs, m, rfl, rfl, hl, hx, hf⟩ := DataW.trod_struct Tryz.underlying42 h
  rw [c42] at hl
  have g : ∀ (i : Nat) (o t : Nat) (f : Field), (match Tryz.prog.underlying 42 with | some (.struct fs) => fs[i]? | _ => none) = some f → f.offset = o → f.type = t →
      ∃ y, DataW.trod enc Tryz.prog w base spare held m t ((cs.drop o).take (Tryz.prog.cellsOf t)) = some y := by
    intro i o t f hi ho ht
    rw [Tryz.underlying42] at hi
    subst ho; subst ht
    have h1 := hf i f hi
    have h2 : i < xs.length := by rw [hx]; exact (Array.getElem?_eq_some_iff.1 hi).1
    rw [List.getElem?_eq_getElem h2] at h1
    exact ⟨_, h1⟩
  match cs, hl with
  | [v0, v1, v2, v3, v4, v5, v6], _ =>
    have gi : ∀ (i o : Nat) (f : Field) (v : Value), (match Tryz.prog.underlying 42 with | some (.struct fs) => fs[i]? | _ => none) = some f → f.offset = o → f.type = 3 → ([v0, v1, v2, v3, v4, v5, v6].drop o).take 1 = [v] →
        ∃ z, v = .int .i64 z ∧ -9223372036854775808 ≤ z ∧ z ≤ 9223372036854775807 := by
      intro i o f v h1 h2 h3 h4
      obtain ⟨y, hy⟩ := g i o 3 f h1 h2 h3
      rw [c3, h4] at hy
      obtain ⟨z, e1, _, hw⟩ := DataW.trod_int Tryz.underlying3 hy
      refine ⟨z, by simpa using e1, ?_⟩
      simpa [Lit.wf, IntKind.min, IntKind.max, IntKind.signed, IntKind.bits] using hw
    obtain ⟨z0, rfl, b0⟩ := gi 0 0 _ v0 (by rw [Tryz.underlying42]; rfl) rfl rfl rfl
    obtain ⟨z1, rfl, b1⟩ := gi 1 1 _ v1 (by rw [Tryz.underlying42]; rfl) rfl rfl rfl
    obtain ⟨z2, rfl, b2⟩ := gi 2 2 _ v2 (by rw [Tryz.underlying42]; rfl) rfl rfl rfl
    obtain ⟨z3, rfl, b3⟩ := gi 3 3 _ v3 (by rw [Tryz.underlying42]; rfl) rfl rfl rfl
    obtain ⟨z5, rfl, b5⟩ := gi 5 5 _ v5 (by rw [Tryz.underlying42]; rfl) rfl rfl rfl
    obtain ⟨z6, rfl, b6⟩ := gi 6 6 _ v6 (by rw [Tryz.underlying42]; rfl) rfl rfl rfl
    obtain ⟨y4, hy4⟩ := g 4 4 4 _ (by rw [Tryz.underlying42]; rfl) rfl rfl
    rw [c4] at hy4
    obtain ⟨z4, e4, _⟩ := DataW.trod_bool Tryz.underlying4 hy4
    obtain rfl : v4 = .bool z4 := by simpa using e4
    refine ⟨⟨z0, z1, z2, z3, z4, z5, z6⟩, rfl, ?_⟩
    intro z hz
    simp only [List.mem_cons, List.not_mem_nil, or_false] at hz
    rcases hz with rfl | rfl | rfl | rfl | rfl | rfl <;> assumption
theorem open_ring (h : DataW.trod enc Tryz.prog w base spare held fuel 27 cs = some x) :
    ∃ (p : Option Addr) (cap : Nat) (l : List Sd), cs = [slv p l.length cap] ∧ RingP w p l ∧ (∀ s ∈ l, s.in64) ∧ l.length + 1 ≤ Rows.uptoBulk x.1 := by
  rcases open_slice Tryz.underlying27 h with ⟨rfl, rfl⟩ | ⟨a, len, cap, m, n, D, Pl, rfl, _, hl, _, hm, rfl, hx⟩
  · exact ⟨none, 0, [], rfl, .inl rfl, (fun _ hs => by cases hs), bulk_one _⟩
  have hlm : len ≤ m := by rw [hm]; split <;> omega
  obtain ⟨S, hS⟩ := choose_lt (α := Sd) (n := len) (p := fun i s => w.cells? base (a.add (i * 7)) 7 = some s.cells ∧ s.in64) fun i hi => by
    obtain ⟨cs', h1, h2⟩ := hx i (by omega)
    rw [c42] at h1
    obtain ⟨s, rfl, h3⟩ := open_sd h2
    exact ⟨s, h1, h3⟩
  refine ⟨some a, cap, (List.range len).map S, by simp, ?_, ?_, ?_⟩
  · by_cases h0 : len = 0
    · subst h0; exact .inl rfl
    · have hs : a.spot = none := by simpa [Addr.add] using (open_row (hS 0 (by omega)).1 (by decide)).1
      refine .inr ⟨a.block, a.off, by cases a; simp_all, ⟨fun i s hi => ?_⟩⟩
      simp only [List.getElem?_map, Option.map_eq_some_iff] at hi
      obtain ⟨k, hk, rfl⟩ := hi
      have hk' : i < len ∧ k = i := by
        have := List.getElem?_eq_some_iff.1 hk
        obtain ⟨h1, h2⟩ := this
        simp at h1 h2
        exact ⟨h1, h2.symm⟩
      obtain ⟨h1, rfl⟩ := hk'
      have := (open_row (hS k h1).1 (by decide)).2
      rwa [add_off hs] at this
  · intro s hs
    simp only [List.mem_map, List.mem_range] at hs
    obtain ⟨i, hi, rfl⟩ := hs
    exact (hS i hi).2
  · have h1 := bulk_len ((List.range len).map D)
    have h2 := bulk_slice ((List.range len).map D) ((List.range (m - len)).map fun j => D (len + j))
    simp only [List.length_map, List.length_range] at h1 ⊢
    omega
theorem open_rings (h : DataW.trod enc Tryz.prog w base spare held fuel 22 cs = some x) :
    ∃ (p : Option Addr) (cap : Nat) (rs : List (List Sd)), cs = [slv p rs.length cap] ∧ RingsP w p rs ∧ (∀ l ∈ rs, ∀ s ∈ l, s.in64) ∧ tot rs + rs.length + 1 ≤ Rows.uptoBulk x.1 := by
  rcases open_slice Tryz.underlying22 h with ⟨rfl, rfl⟩ | ⟨a, len, cap, m, n, D, Pl, rfl, _, hl, _, hm, rfl, hx⟩
  · exact ⟨none, 0, [], rfl, .inl rfl, (fun _ hs => by cases hs), bulk_one _⟩
  have hlm : len ≤ m := by rw [hm]; split <;> omega
  obtain ⟨L, hL⟩ := choose_lt (α := List Sd) (n := len) (p := fun i l => ∃ q c, w.cells? base (a.add (i * 1)) 1 = some [slv q l.length c] ∧ RingP w q l ∧ (∀ s ∈ l, s.in64) ∧ l.length + 1 ≤ Rows.uptoBulk (D i)) fun i hi => by
    obtain ⟨cs', h1, h2⟩ := hx i (by omega)
    rw [c27] at h1
    obtain ⟨q, c, l, rfl, h3, h4, h5⟩ := open_ring h2
    exact ⟨l, q, c, h1, h3, h4, h5⟩
  refine ⟨some a, cap, (List.range len).map L, by simp, ?_, ?_, ?_⟩
  · by_cases h0 : len = 0
    · subst h0; exact .inl rfl
    · obtain ⟨q0, c0, h00, _⟩ := hL 0 (by omega)
      have hs : a.spot = none := by simpa [Addr.add] using (open_row h00 (by decide)).1
      refine .inr ⟨a.block, a.off, by cases a; simp_all, ⟨fun i l hi => ?_⟩⟩
      simp only [List.getElem?_map, Option.map_eq_some_iff] at hi
      obtain ⟨k, hk, rfl⟩ := hi
      have hk' : i < len ∧ k = i := by
        obtain ⟨h1, h2⟩ := List.getElem?_eq_some_iff.1 hk
        simp at h1 h2
        exact ⟨h1, h2.symm⟩
      obtain ⟨h1, rfl⟩ := hk'
      obtain ⟨q, c, h2, h3, _⟩ := hL k h1
      have := (open_row h2 (by decide)).2
      rw [add_off hs] at this
      exact ⟨q, c, this, h3⟩
  · intro l hl'
    simp only [List.mem_map, List.mem_range] at hl'
    obtain ⟨i, hi, rfl⟩ := hl'
    obtain ⟨_, _, _, _, h3, _⟩ := hL i hi
    exact h3
  · have h1 := bulk_sum (fun i => (L i).length) D (List.range len) fun i hi => by
      obtain ⟨_, _, _, _, _, h3⟩ := hL i (by simpa using hi)
      exact h3
    have h2 := bulk_slice ((List.range len).map D) ((List.range (m - len)).map fun j => D (len + j))
    simp only [tot, List.map_map, List.length_map, List.length_range] at h1 ⊢
    have h3 : (List.range len).map (List.length ∘ L) = (List.range len).map fun i => (L i).length := rfl
    rw [h3]
    show _ ≤ Rows.uptoBulk (DataW.slice _ _)
    omega
end
section
variable {H : Type} {enc : TypeId × Value → H} {w : World} {base : Nat} {spare : Nat → Bool} {held : Bool} {v : Value} {d : DataW H} {ps : List MemPlace}
theorem open_plan {r : Reach} {b0 : Nat} (hv : Value.okWide Tryz.prog w r b0 24 v) (h : DataW.Trod enc Tryz.prog w base spare held 24 v d ps) :
    ∃ (p : Option Addr) (cap : Nat) (rs : List (List Sd)), v = planV p rs.length cap ∧ RingsP w p rs ∧ (∀ l ∈ rs, ∀ s ∈ l, s.in64) ∧ tot rs + rs.length + 2 ≤ Rows.uptoBulk d := by
  obtain ⟨cs, rfl, hc⟩ := okWide_struct Tryz.underlying24 hv
  obtain ⟨fuel, hf⟩ := h
  obtain ⟨xs, m, rfl, hx, hl, hn, hg⟩ := DataW.trod_struct Tryz.underlying24 hf
  rw [c24] at hc
  obtain ⟨y0, rfl⟩ : ∃ y, xs = [y] := by
    match xs, hn with
    | [y], _ => exact ⟨y, rfl⟩
  have h0 : DataW.trod enc Tryz.prog w base spare held m 22 (List.take (Tryz.prog.cellsOf 22) (List.drop 0 cs.toList)) = some y0 := hg 0 _ rfl
  rw [c22] at h0
  obtain ⟨c0, rfl⟩ : ∃ c, cs = #[c] := by
    obtain ⟨l⟩ := cs
    match l, hc with
    | [c], _ => exact ⟨c, rfl⟩
  obtain ⟨p, cap, rs, e1, e2, e3, e4⟩ := open_rings h0
  simp only [Prod.mk.injEq] at hx
  obtain ⟨rfl, _⟩ := hx
  refine ⟨p, cap, rs, ?_, e2, e3, ?_⟩
  · have : c0 = slv p rs.length cap := by simpa [Value.cells] using e1
    rw [this]
  · simp only [List.map_cons, List.map_nil, Rows.uptoBulk, Rows.uptoBulkAll]
    have : y0.1 = (y0 : DataW H × List MemPlace).1 := rfl
    omega
/-- A plan's row has room for its rings. -/
theorem rings_cap {fuel : Nat} {cs : List Value} {x : DataW H × List MemPlace} (h : DataW.trod enc Tryz.prog w base spare held fuel 22 cs = some x) {p : Option Addr} {n cap : Nat} (e : cs = [slv p n cap]) : n ≤ cap := by
  rcases open_slice Tryz.underlying22 h with ⟨rfl, rfl⟩ | ⟨a, len, cap', m, n', D, Pl, rfl, _, hl, _, hm, rfl, hx⟩
  · injection e with e _
    injection e with _ e1 e2
    omega
  · injection e with e _
    injection e with _ e1 e2
    omega
theorem plan_cap {p : Option Addr} {n cap : Nat} (h : DataW.Trod enc Tryz.prog w base spare held 24 (planV p n cap) d ps) : n ≤ cap := by
  obtain ⟨fuel, hf⟩ := h
  obtain ⟨xs, m, rfl, hx, hl, hn, hg⟩ := DataW.trod_struct Tryz.underlying24 hf
  obtain ⟨y0, rfl⟩ : ∃ y, xs = [y] := by
    match xs, hn with
    | [y], _ => exact ⟨y, rfl⟩
  have h0 : DataW.trod enc Tryz.prog w base spare held m 22 (List.take (Tryz.prog.cellsOf 22) (List.drop 0 (planV p n cap).cells.toList)) = some y0 := hg 0 _ rfl
  rw [c22] at h0
  exact rings_cap h0 rfl
end
end Go.Proofs.YtnpfkmbcejgnjaaGreatDoor
