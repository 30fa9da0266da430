/-
  Lemmas that the theorem beamMirrors_upto_card needs (part 1 of 1).
-/
import Derived.Test.YtddadjbflgdomaaGreatDoorBqe
import Derived.Laws.StructEq
namespace Go.Proofs.YtddadjbflgdomaaGreatDoor
theorem sumW_app (a b : List (Rat × Rat)) : sumW (a ++ b) = sumW a + sumW b := by
  induction a with
  | nil => show sumW b = 0 + sumW b; grind
  | cons p a ih => show p.2 + sumW (a ++ b) = p.2 + sumW a + sumW b; rw [ih]; grind
end Go.Proofs.YtddadjbflgdomaaGreatDoor
namespace Go.Proofs.YtddadjbflgdomaaGreatDoor
def BmP.mir (b : BmP) : BmP := ⟨b.len, b.len - b.r, b.len - b.l, b.fs.map fun f => (b.len - f.1, f.2), b.ss.map fun s => (b.len - s.2.1, b.len - s.1, s.2.2)⟩
theorem mir_mir (b : BmP) : b.mir.mir = b := by
  obtain ⟨len, l, r, fs, ss⟩ := b
  have e : ∀ x : Rat, len - (len - x) = x := fun x => by grind
  show (⟨len, len - (len - l), len - (len - r), (fs.map _).map _, (ss.map _).map _⟩ : BmP) = _
  rw [e, e, List.map_map, List.map_map]
  congr 1
  · conv => rhs; rw [← List.map_id fs]
    refine List.map_congr_left fun f _ => ?_
    show (len - (len - f.1), f.2) = f
    rw [e]
  · conv => rhs; rw [← List.map_id ss]
    refine List.map_congr_left fun s _ => ?_
    show (len - (len - s.1), len - (len - s.2.1), s.2.2) = s
    rw [e, e]
/-- The turning weight of the loads up to a place. -/
def ldF (l : List (Rat × Rat)) (x : Rat) : Rat := x * sumW (l.filter fun f => decide (f.1 ≤ x)) - sumM (l.filter fun f => decide (f.1 ≤ x))
def ldS (l : List (Rat × Rat × Rat)) (x : Rat) : Rat := x * sumW (l.filterMap (sprd x)) - sumM (l.filterMap (sprd x))
theorem ldF_cons (p : Rat × Rat) (l : List (Rat × Rat)) (x : Rat) : ldF (p :: l) x = (if p.1 ≤ x then p.2 * (x - p.1) else 0) + ldF l x := by
  unfold ldF
  rw [List.filter_cons]
  by_cases c : p.1 ≤ x
  · rw [if_pos (decide_eq_true c), if_pos c]
    show x * (p.2 + sumW _) - (p.2 * p.1 + sumM _) = _
    grind
  · rw [if_neg (by simpa using c), if_neg c]; grind
/-- One spread's part. -/
def sp1 (s : Rat × Rat × Rat) (x : Rat) : Rat := if x ≤ s.1 then 0 else if x ≤ s.2.1 then s.2.2 * (x - s.1) * (x - s.1) / 2 else s.2.2 * (s.2.1 - s.1) * (x - (s.1 + s.2.1) / 2)
theorem ldS_cons {s : Rat × Rat × Rat} (hs : s.1 < s.2.1) (l : List (Rat × Rat × Rat)) (x : Rat) : ldS (s :: l) x = sp1 s x + ldS l x := by
  unfold ldS sp1
  rw [List.filterMap_cons]
  by_cases c1 : x ≤ s.1
  · have e : sprd x s = none := by unfold sprd; rw [if_neg]; split <;> grind
    rw [e, if_pos c1]; simp only; grind
  · rw [if_neg c1]
    by_cases c2 : x ≤ s.2.1
    · have e : sprd x s = some ((s.1 + x) / 2, s.2.2 * (x - s.1)) := by
        have e0 : (if x < s.2.1 then x else s.2.1) = x := by split; rfl; grind
        unfold sprd; rw [e0, if_pos (Rat.not_le.1 c1)]
      rw [e, if_pos c2]
      show x * (s.2.2 * (x - s.1) + sumW _) - (s.2.2 * (x - s.1) * ((s.1 + x) / 2) + sumM _) = _
      grind
    · have e : sprd x s = some ((s.1 + s.2.1) / 2, s.2.2 * (s.2.1 - s.1)) := by
        have e0 : (if x < s.2.1 then x else s.2.1) = s.2.1 := by split; grind; rfl
        unfold sprd; rw [e0, if_pos hs]
      rw [e, if_neg c2]
      show x * (s.2.2 * (s.2.1 - s.1) + sumW _) - (s.2.2 * (s.2.1 - s.1) * ((s.1 + s.2.1) / 2) + sumM _) = _
      grind
theorem mir_F (L : Rat) (l : List (Rat × Rat)) (x : Rat) : ldF l x - ldF (l.map fun f => (L - f.1, f.2)) (L - x) = x * sumW l - sumM l := by
  induction l with
  | nil => show (x * 0 - 0) - ((L - x) * 0 - 0) = x * 0 - 0; grind
  | cons p l ih =>
    rw [List.map_cons, ldF_cons, ldF_cons]
    show _ = x * (p.2 + sumW l) - (p.2 * p.1 + sumM l)
    by_cases c : p.1 ≤ x
    · by_cases c2 : L - p.1 ≤ L - x
      · rw [if_pos c, if_pos c2]; have : p.1 = x := by grind
        grind
      · rw [if_pos c, if_neg c2]; grind
    · rw [if_neg c, if_pos (show L - p.1 ≤ L - x by grind)]; grind
theorem mir_sp1 (L : Rat) {s : Rat × Rat × Rat} (hs : s.1 < s.2.1) (x : Rat) : sp1 s x - sp1 (L - s.2.1, L - s.1, s.2.2) (L - x) = s.2.2 * (s.2.1 - s.1) * (x - (s.1 + s.2.1) / 2) := by
  unfold sp1
  simp only
  by_cases c1 : x ≤ s.1
  · rw [if_pos c1, if_neg (show ¬ L - x ≤ L - s.2.1 by grind)]
    by_cases c2 : L - x ≤ L - s.1
    · have e : x = s.1 := by grind
      rw [if_pos c2, e]; grind
    · rw [if_neg c2]; grind
  · rw [if_neg c1]
    by_cases c2 : x ≤ s.2.1
    · rw [if_pos c2]
      by_cases c3 : L - x ≤ L - s.2.1
      · have e : x = s.2.1 := by grind
        rw [if_pos c3, e]; grind
      · rw [if_neg c3, if_pos (show L - x ≤ L - s.1 by grind)]; grind
    · rw [if_neg c2, if_pos (show L - x ≤ L - s.2.1 by grind)]; grind
/-- The weights and the turning weights of whole spreads. -/
theorem full_S {L : Rat} (l : List (Rat × Rat × Rat)) (h1 : ∀ s ∈ l, s.1 < s.2.1) (h2 : ∀ s ∈ l, s.2.1 ≤ L) :
    l.filterMap (sprd L) = l.map fun s => ((s.1 + s.2.1) / 2, s.2.2 * (s.2.1 - s.1)) := by
  induction l with
  | nil => rfl
  | cons s l ih =>
    have a := h1 s (List.mem_cons_self ..)
    have c := h2 s (List.mem_cons_self ..)
    have e : sprd L s = some ((s.1 + s.2.1) / 2, s.2.2 * (s.2.1 - s.1)) := by
      unfold sprd; rw [if_neg (Rat.not_lt.2 c), if_pos a]
    rw [List.filterMap_cons, e, List.map_cons, ih (fun t ht => h1 t (List.mem_cons_of_mem _ ht)) (fun t ht => h2 t (List.mem_cons_of_mem _ ht))]
theorem mir_S (L : Rat) (l : List (Rat × Rat × Rat)) (h1 : ∀ s ∈ l, s.1 < s.2.1) (x : Rat) :
    ldS l x - ldS (l.map fun s => (L - s.2.1, L - s.1, s.2.2)) (L - x) = x * sumW (l.map fun s => ((s.1 + s.2.1) / 2, s.2.2 * (s.2.1 - s.1))) - sumM (l.map fun s => ((s.1 + s.2.1) / 2, s.2.2 * (s.2.1 - s.1))) := by
  induction l with
  | nil => show (x * 0 - 0) - ((L - x) * 0 - 0) = x * 0 - 0; grind
  | cons s l ih =>
    have a := h1 s (List.mem_cons_self ..)
    have i1 := ih fun t ht => h1 t (List.mem_cons_of_mem _ ht)
    have m := mir_sp1 L a x
    rw [List.map_cons, List.map_cons, ldS_cons a, ldS_cons (show L - s.2.1 < L - s.1 by grind)]
    show _ = x * (s.2.2 * (s.2.1 - s.1) + sumW _) - (s.2.2 * (s.2.1 - s.1) * ((s.1 + s.2.1) / 2) + sumM _)
    grind
theorem mir_W (L : Rat) (l : List (Rat × Rat)) : sumW (l.map fun f => (L - f.1, f.2)) = sumW l ∧ sumM (l.map fun f => (L - f.1, f.2)) = L * sumW l - sumM l := by
  induction l with
  | nil => exact ⟨rfl, by show (0 : Rat) = L * 0 - 0; grind⟩
  | cons p l ih =>
    constructor
    · show p.2 + sumW _ = p.2 + sumW l; rw [ih.1]
    · show p.2 * (L - p.1) + sumM _ = L * (p.2 + sumW l) - (p.2 * p.1 + sumM l); rw [ih.2]; grind
theorem mir_spread (L : Rat) (l : List (Rat × Rat × Rat)) : (l.map fun s => (L - s.2.1, L - s.1, s.2.2)).map (fun s : Rat × Rat × Rat => ((s.1 + s.2.1) / 2, s.2.2 * (s.2.1 - s.1))) = (l.map fun s => ((s.1 + s.2.1) / 2, s.2.2 * (s.2.1 - s.1))).map fun f => (L - f.1, f.2) := by
  rw [List.map_map, List.map_map]
  refine List.map_congr_left fun s _ => ?_
  show ((L - s.2.1 + (L - s.1)) / 2, s.2.2 * (L - s.1 - (L - s.2.1))) = (L - (s.1 + s.2.1) / 2, s.2.2 * (s.2.1 - s.1))
  congr 1
  · grind
  · grind
theorem pts_all {b : BmP} (h : b.Lies) : b.pts b.len = b.all := by
  unfold BmP.pts BmP.all
  rw [full_S b.ss h.s1 h.s2, List.filter_eq_self.2 fun f hf => decide_eq_true (h.f1 f hf)]
theorem mir_all (b : BmP) : b.mir.all = b.all.map fun f => (b.len - f.1, f.2) := by
  unfold BmP.all BmP.mir
  simp only [List.map_append]
  rw [mir_spread]
theorem mir_lies {b : BmP} (h : b.Lies) : b.mir.Lies := by
  have h0 := h.l0
  have h1 := h.lr
  have h2 := h.r1
  refine ⟨h.len, ?_, ?_, ?_, fun f hf => ?_, fun f hf => ?_, fun s hs => ?_, fun s hs => ?_, fun s hs => ?_⟩
  · show 0 ≤ b.len - b.r; grind
  · show b.len - b.r < b.len - b.l; grind
  · show b.len - b.l ≤ b.len; grind
  · obtain ⟨g, hg, rfl⟩ := List.mem_map.1 hf
    have := h.f1 g hg; show 0 ≤ b.len - g.1; grind
  · obtain ⟨g, hg, rfl⟩ := List.mem_map.1 hf
    have := h.f0 g hg; show b.len - g.1 ≤ b.len; grind
  · obtain ⟨g, hg, rfl⟩ := List.mem_map.1 hs
    have := h.s2 g hg; show 0 ≤ b.len - g.2.1; grind
  · obtain ⟨g, hg, rfl⟩ := List.mem_map.1 hs
    have := h.s1 g hg; show b.len - g.2.1 < b.len - g.1; grind
  · obtain ⟨g, hg, rfl⟩ := List.mem_map.1 hs
    have := h.s0 g hg; show b.len - g.1 ≤ b.len; grind
theorem mir_total {b : BmP} (h : b.Lies) : b.mir.total = b.total := by
  show sumW (b.mir.pts b.mir.len) = sumW (b.pts b.len)
  rw [pts_all (mir_lies h), pts_all h, mir_all, (mir_W _ _).1]
theorem mir_right {b : BmP} (h : b.Lies) : b.mir.right = b.left := by
  have hne : b.r - b.l ≠ 0 := by have := h.lr; grind
  show (sumM (b.mir.pts b.mir.len) - (b.len - b.r) * sumW (b.mir.pts b.mir.len)) / (b.len - b.l - (b.len - b.r)) = sumW (b.pts b.len) - (sumM (b.pts b.len) - b.l * sumW (b.pts b.len)) / (b.r - b.l)
  rw [pts_all (mir_lies h), pts_all h, mir_all, (mir_W _ _).1, (mir_W _ _).2, show b.len - b.l - (b.len - b.r) = b.r - b.l by grind]
  grind
theorem mir_left {b : BmP} (h : b.Lies) : b.mir.left = b.right := by
  have e1 := bal_sum b
  have e2 := bal_sum b.mir
  have e3 := mir_right h
  have e4 := mir_total h
  grind
theorem moment_ld (b : BmP) (x : Rat) : b.moment x = (if b.l < x then b.left * (x - b.l) else 0) + (if b.r < x then b.right * (x - b.r) else 0) - (ldF b.fs x + ldS b.ss x) := by
  unfold BmP.moment BmP.pts ldF ldS
  rw [sumW_app, sumM_app]; grind
theorem mir_moment {b : BmP} (h : b.Lies) (x : Rat) : b.mir.moment (b.len - x) = b.moment x := by
  have e := bal_turn h
  have e2 := bal_sum b
  have eW : sumW (b.pts b.len) = sumW b.all := by rw [pts_all h]
  have eM : sumM (b.pts b.len) = sumM b.all := by rw [pts_all h]
  have f1 := mir_F b.len b.fs x
  have f2 := mir_S b.len b.ss h.s1 x
  have w1 : sumW b.all = sumW b.fs + sumW (b.ss.map fun s => ((s.1 + s.2.1) / 2, s.2.2 * (s.2.1 - s.1))) := sumW_app _ _
  have w2 : sumM b.all = sumM b.fs + sumM (b.ss.map fun s => ((s.1 + s.2.1) / 2, s.2.2 * (s.2.1 - s.1))) := sumM_app _ _
  rw [moment_ld, moment_ld b, mir_left h, mir_right h]
  show (if b.len - b.r < b.len - x then b.right * (b.len - x - (b.len - b.r)) else 0) + (if b.len - b.l < b.len - x then b.left * (b.len - x - (b.len - b.l)) else 0) - (ldF (b.fs.map fun f => (b.len - f.1, f.2)) (b.len - x) + ldS (b.ss.map fun s => (b.len - s.2.1, b.len - s.1, s.2.2)) (b.len - x)) = _
  unfold BmP.total at e2
  rw [eM] at e
  rw [eW] at e2
  have cl : (if b.len - b.l < b.len - x then b.left * (b.len - x - (b.len - b.l)) else 0) = (if b.l < x then b.left * (x - b.l) else 0) - b.left * (x - b.l) := by
    by_cases c : b.l < x
    · rw [if_neg (show ¬ b.len - b.l < b.len - x by grind), if_pos c]; grind
    · rw [if_neg c]
      by_cases c2 : b.len - b.l < b.len - x
      · rw [if_pos c2]; grind
      · rw [if_neg c2]; have : b.l = x := by grind
        grind
  have cr : (if b.len - b.r < b.len - x then b.right * (b.len - x - (b.len - b.r)) else 0) = (if b.r < x then b.right * (x - b.r) else 0) - b.right * (x - b.r) := by
    by_cases c : b.r < x
    · rw [if_neg (show ¬ b.len - b.r < b.len - x by grind), if_pos c]; grind
    · rw [if_neg c]
      by_cases c2 : b.len - b.r < b.len - x
      · rw [if_pos c2]; grind
      · rw [if_neg c2]; have : b.r = x := by grind
        grind
  rw [cl, cr]
  generalize (if b.l < x then b.left * (x - b.l) else 0) = u1
  generalize (if b.r < x then b.right * (x - b.r) else 0) = u2
  grind
end Go.Proofs.YtddadjbflgdomaaGreatDoor
namespace Go.Proofs.YtddadjbflgdomaaGreatDoor
set_option maxRecDepth 10000
theorem InD.ofN (z : Int) {D M : Nat} (hD : 0 < D) (h : z.natAbs ≤ M) : InD D M (nrm z (D : Int)) := ⟨z, by rw [nrm_div z (by omega), Rat.divInt_eq_div]; rfl, h⟩
theorem BmG.mir {b : BmP} (h : BmG b) : BmG b.mir := by
  have hf := h.hf
  have hL := mir_lies h.lies
  have sub : ∀ {q : Rat}, InD 2 50 q → 0 ≤ b.len - q → b.len - q ≤ b.len → InD 2 50 (b.len - q) := fun {q} hq h0 h1 => (hf.len.sub hq).le hf.len (by decide) h0 h1
  have lr := Rat.le_of_lt hL.lr
  refine ⟨⟨hf.len, sub hf.r hL.l0 (Rat.le_trans lr hL.r1), sub hf.l (Rat.le_trans hL.l0 lr) hL.r1, fun f hm => ?_, fun f hm => ?_, fun s hm => ?_, fun s hm => ?_, fun s hm => ?_, ?_, ?_⟩, hL, ?_⟩
  · obtain ⟨g, hg, rfl⟩ := List.mem_map.1 hm
    exact sub (hf.f1 g hg) (hL.f0 _ hm) (hL.f1 _ hm)
  · obtain ⟨g, hg, rfl⟩ := List.mem_map.1 hm
    exact hf.f2 g hg
  · obtain ⟨g, hg, rfl⟩ := List.mem_map.1 hm
    exact sub (hf.s2 g hg) (hL.s0 _ hm) (Rat.le_trans (Rat.le_of_lt (hL.s1 _ hm)) (hL.s2 _ hm))
  · obtain ⟨g, hg, rfl⟩ := List.mem_map.1 hm
    exact sub (hf.s1 g hg) (Rat.le_trans (hL.s0 _ hm) (Rat.le_of_lt (hL.s1 _ hm))) (hL.s2 _ hm)
  · obtain ⟨g, hg, rfl⟩ := List.mem_map.1 hm
    exact hf.s3 g hg
  · show (b.fs.map _).length ≤ 10; rw [List.length_map]; exact hf.fn
  · show (b.ss.map _).length ≤ 8; rw [List.length_map]; exact hf.sn
  · obtain ⟨c, hc⟩ := h.span
    refine ⟨c, hc.pos, hc.le, ?_⟩
    rw [← hc.eq]
    show (b.len - b.l) - (b.len - b.r) = b.r - b.l
    grind
end Go.Proofs.YtddadjbflgdomaaGreatDoor
namespace Go.Proofs.YtddadjbflgdomaaGreatDoor
open Go Go.RowKit Go.Am Go.Lib
set_option maxRecDepth 10000
-- BOXES 7
theorem mirror1_gives (bb : Nat) (x y : Rat) (cs : List Value) (W : World) (hz : Sz2 x y) (hrow : RowAt W bb 0 (str (numS x) :: cs)) (hv : MaxP W) (ht : TabP W) :
    CallsR Tryz.prog 58 #[str (numS y), selfP bb] W (fun _ : Unit => str (numS (x - y))) (fun _ => True) (fun _ => []) := by
  refine calls_enter (args := [str (numS y), selfP bb]) Tryz.func58 rfl rfl rfl ?_
  refine zA ?_
  refine zB ?_
  refine wl_pure Tryz.hT rfl rfl rfl ?_
  refine wl_nil ?_
  refine zE ?_
  refine zA ?_
  refine zB ?_
  refine wl_pure Tryz.hT rfl rfl rfl ?_
  refine wl_load rfl rfl rfl rfl (fun W hp => RowAt.load 0 Tryz.hT rfl ((fun W1 hp => hrow.hp hp) W hp) rfl) ?_
  refine wl_pure Tryz.hT rfl rfl rfl ?_
  refine wl_call1 rfl rfl rfl rfl rfl rfl (by kernel_rfl) (fun W1 hp => bsub_gives x y hz W1 (hv.hp hp) (ht.hp hp)) ?_
  refine wl_pure Tryz.hT rfl rfl rfl ?_
  refine wl_nil ?_
  refine zE ?_
  refine zO ?_
  exact ne_ret1 Tryz.hT rfl (.tmp rfl) () rfl trivial fun W _ => NewBx.nil _ _
def mrF (b : BmP) (i : Nat) : List (Rat × Rat) := (b.fs.take i).map fun f => (b.len - f.1, f.2)
def mrS (b : BmP) (i : Nat) : List (Rat × Rat × Rat) := (b.ss.take i).map fun s => (b.len - s.2.1, b.len - s.1, s.2.2)
theorem mrF_succ {b : BmP} {i : Nat} (hi : i < b.fs.length) : mrF b (i + 1) = mrF b i ++ [(b.len - b.fs[i].1, b.fs[i].2)] := by
  unfold mrF; rw [List.take_add_one, List.getElem?_eq_getElem hi, List.map_append]; rfl
theorem mrS_succ {b : BmP} {i : Nat} (hi : i < b.ss.length) : mrS b (i + 1) = mrS b i ++ [(b.len - b.ss[i].2.1, b.len - b.ss[i].1, b.ss[i].2.2)] := by
  unfold mrS; rw [List.take_add_one, List.getElem?_eq_getElem hi, List.map_append]; rfl
theorem mrF_all (b : BmP) : mrF b b.fs.length = b.mir.fs := by unfold mrF; rw [List.take_length]; rfl
theorem mrS_all (b : BmP) : mrS b b.ss.length = b.mir.ss := by unfold mrS; rw [List.take_length]; rfl
abbrev bmM (g : Nat) (b : BmP) (u v : Value) : Bx := ⟨g, 31, [str (numS b.len), str (numS (b.len - b.r)), str (numS (b.len - b.l)), u, v], true, none⟩
abbrev mirC (b1 : Nat) : Value := .func (.func 58) #[] #[selfP b1]
theorem row_len {W0 W : World} {bxs : List Bx} (hp : Hp W0 bxs W) (k : Nat) {g : Nat} {b : BmP} {p q : Option Addr} {m n : Nat} (hk : nth bxs k = some (bmB g b p m q n)) : RowAt W g 0 (str (numS b.len) :: [str (numS b.l), str (numS b.r), .slice p b.fs.length m, .slice q b.ss.length n]) := RowAt.of_bx hp k hk rfl
set_option maxHeartbeats 32000000 in
theorem bMirror_gives (b : BmP) (h : BmC b) (p q : Option Addr) (m n : Nat) (W : World) (hM : BmM W b p q) :
    CallsR Tryz.prog 24 #[bmV b p m q n] W (fun V : BmV b.mir => .tuple #[V.val, .int .i64 0]) (fun _ => True) (fun V => [V.bf, V.bs]) := by
  have hv := hM.v
  have ht := hM.t
  have hlf := h.lf
  have hls := h.ls
  refine calls_enter (args := [bmV b p m q n]) Tryz.func24 rfl rfl rfl ?_
  refine zA ?_
  refine zB ?_
  (refine wl_box rfl rfl rfl rfl ?_; intro)
  (refine wl_allocZ Tryz.hZ rfl rfl rfl rfl ?_; intro)
  refine wl_pure Tryz.hT rfl rfl rfl ?_
  refine wl_nil ?_
  rename_i b1 b2
  refine zE ?_
  iterate 2 refine zA ?_
  refine zB ?_
  refine wl_loadBx 0 Tryz.hT rfl rfl rfl rfl rfl rfl rfl rfl ?_
  refine wl_call1 rfl rfl rfl rfl rfl rfl (by kernel_rfl) (fun W hp => bcheck_gives b h p q m n W (hM.hp hp)) ?_
  refine wl_pure Tryz.hT rfl rfl rfl ?_
  refine wl_nil ?_
  refine zE ?_
  refine zS rfl ?_
  refine zI ?_
  refine zE ?_
  refine zA ?_
  refine zB ?_
  iterate 2 refine wl_pure Tryz.hT rfl rfl rfl ?_
  refine wl_nil ?_
  refine zE ?_
  refine wc_seq ?_
  refine wc_lateY (X := Nat) [true, true, true, true, true, true, true, true, true, true, true, false, false] (fun g => [(1, selfP b1), (2, selfP b2), (4, mirC b1), (5, selfP g)]) (fun g => [bmB b1 b p m q n, bm0 b2, bmM g b (.slice none 0 0) (.slice none 0 0)])
      2 [bmB b1 b p m q n, bm0 b2] Tryz.mixed (by kernel_rfl) ?_ ?_
  · refine wq_pure Tryz.hT rfl rfl rfl ?_
    refine wq_loadBx 0 Tryz.hT rfl rfl rfl rfl rfl rfl rfl rfl ?_
    iterate 2 refine wq_pure Tryz.hT rfl rfl rfl ?_
    refine wq_loadBx 0 Tryz.hT rfl rfl rfl rfl rfl rfl rfl rfl ?_
    refine wq_call1 (capt := [selfP b1]) rfl rfl rfl rfl rfl rfl (by kernel_rfl) (fun W1 hp => mirror1_gives b1 b.len b.r _ W1 (h.len.z2 h.r) (row_len hp 0 rfl) (hv.hp hp) (ht.hp hp)) ?_
    iterate 2 refine wq_pure Tryz.hT rfl rfl rfl ?_
    refine wq_loadBx 0 Tryz.hT rfl rfl rfl rfl rfl rfl rfl rfl ?_
    refine wq_call1 (capt := [selfP b1]) rfl rfl rfl rfl rfl rfl (by kernel_rfl) (fun W1 hp => mirror1_gives b1 b.len b.l _ W1 (h.len.z2 h.l) (row_len hp 0 rfl) (hv.hp hp) (ht.hp hp)) ?_
    refine wq_buildZ Tryz.hZ Tryz.hT rfl rfl rfl rfl rfl rfl rfl rfl ?_
    refine wq_wt ?_
    refine wt_step rfl rfl (by ((repeat (first | refine Weak.same ?_ | refine Weak.off rfl ?_)); exact trivial)) ?_
    refine RS.cons ?_ (RS.nil)
    refine wl_allocZ Tryz.hZ rfl rfl rfl rfl ?_; intro g
    refine wl_nil ?_
    refine ne_wt ?_
    refine wt_step rfl rfl (by ((repeat (first | refine Weak.same ?_ | refine Weak.off rfl ?_)); exact trivial)) ?_
    refine RS.cons ?_ (RS.nil)
    refine wl_storeBx 2 Tryz.hT rfl rfl rfl rfl rfl rfl rfl rfl rfl rfl rfl ?_
    refine wl_nil ?_
    refine ne_wt ?_
    refine wt_done rfl (by ((repeat (first | refine Weak.same ?_ | refine Weak.off rfl ?_)); exact trivial)) ?_
    exact ne_late g ⟨rfl, rfl, rfl, rfl, trivial⟩ [0, 1, 2] (by decide) rfl
  intro b5
  refine zE ?_
  iterate 2 refine zA ?_
  refine zB ?_
  refine wl_pure Tryz.hT rfl rfl rfl ?_
  refine wl_loadBx 0 Tryz.hT rfl rfl rfl rfl rfl rfl rfl rfl ?_
  iterate 2 refine wl_pure Tryz.hT rfl rfl rfl ?_
  refine wl_nil ?_
  refine zE ?_
  refine zH ?_
  refine wc_newGone ?_
  refine wc_loop (X := Nat × Vec) (fun s => [(1, selfP b1), (2, selfP b2), (4, mirC b1), (5, selfP b5), (27, .slice p b.fs.length m), (28, .int .i64 (b.fs.length : Nat)), (29, .int .i64 (s.1 : Nat))]) (fun s => [bmB b1 b p m q n, bm0 b2, bmM b5 b (s.2.val s.1) (.slice none 0 0), s.2.bx 46 (foC (mrF b s.1))])
    (fun s => s.1 ≤ b.fs.length ∧ s.2.OK 2 s.1 (foC (mrF b s.1))) (fun s => b.fs.length - s.1) (0, Vec.empty) ⟨Nat.zero_le _, Vec.OK.empty 2⟩ ⟨rfl, rfl, rfl, rfl, rfl, rfl, rfl, trivial⟩ [] rfl ?_
  rintro ⟨i, V⟩ ⟨hi, hV⟩
  have hi : i ≤ b.fs.length := hi
  have hV : V.OK 2 i (foC (mrF b i)) := hV
  refine zA ?_
  refine zB ?_
  refine wl_pure Tryz.hT rfl rfl rfl ?_
  by_cases hlt : i < b.fs.length
  · refine wl_upd 30 (.bool true) rfl (congrArg Value.bool (decide_eq_true (by omega))) ?_
    refine wl_nil ?_
    refine zE ?_
    refine zA ?_
    refine zR rfl ?_
    refine zI ?_
    refine zE ?_
    refine zA ?_
    refine zH ?_
    refine zA ?_
    refine zB ?_
    obtain ⟨f, hfe⟩ : ∃ f, f = b.fs[i] := ⟨_, rfl⟩
    have hsuc := mrF_succ hlt
    rw [← hfe] at hsuc
    obtain ⟨n1, n2⟩ := h.f f (hfe ▸ List.getElem_mem hlt)
    obtain ⟨g, off, hpe, hrow⟩ := hM.f.at_ hlt
    have hrow := hrow i hlt
    rw [← hfe] at hrow
    subst hpe
    refine wl_indexAddr Tryz.hT rfl rfl rfl rfl rfl rfl rfl (by omega) (by omega) ?_
    refine wl_load rfl rfl rfl rfl (fun W hp => RowAt.load 0 Tryz.hT rfl ((fun W1 hp => hrow.hp hp) W hp) rfl) ?_
    (refine wl_allocZ Tryz.hZ rfl rfl rfl rfl ?_; intro)
    refine wl_storeBx 4 Tryz.hT rfl rfl rfl rfl rfl rfl rfl rfl rfl rfl rfl ?_
    refine wl_nil ?_
    rename_i b7
    refine zE ?_
    refine wc_lateY (X := { V' : Vec // V'.OK 2 (i + 1) (foC (mrF b (i + 1))) }) [true, true, true, true, true, true, true, true, true, false, false, false, false] (fun _ => [(1, selfP b1), (2, selfP b2), (4, mirC b1), (5, selfP b5), (27, .slice (some ⟨g, off, none⟩) b.fs.length m), (28, .int .i64 (b.fs.length : Nat)), (29, .int .i64 (i : Nat))])
      (fun V' => [bmB b1 b (some ⟨g, off, none⟩) m q n, bm0 b2, bmM b5 b (V'.1.val (i + 1)) (.slice none 0 0), V'.1.bx 46 (foC (mrF b (i + 1)))])
      4 [bmB b1 b (some ⟨g, off, none⟩) m q n, bm0 b2, bmM b5 b (V.val i) (.slice none 0 0), V.bx 46 (foC (mrF b i)), ⟨b7, 46, [str (numS f.1), str (numS f.2)], true, none⟩] Tryz.mixed (by kernel_rfl) ?_ ?_
    · refine wq_pure Tryz.hT rfl rfl rfl ?_
      refine wq_loadBx 2 Tryz.hT rfl rfl rfl rfl rfl rfl rfl rfl ?_
      iterate 2 refine wq_pure Tryz.hT rfl rfl rfl ?_
      refine wq_loadBx 4 Tryz.hT rfl rfl rfl rfl rfl rfl rfl rfl ?_
      refine wq_call1 (capt := [selfP b1]) rfl rfl rfl rfl rfl rfl (by kernel_rfl) (fun W1 hp => mirror1_gives b1 b.len f.1 _ W1 (h.len.z2 n1) (row_len hp 0 rfl) (hv.hp hp) (ht.hp hp)) ?_
      refine wq_pure Tryz.hT rfl rfl rfl ?_
      refine wq_loadBx 4 Tryz.hT rfl rfl rfl rfl rfl rfl rfl rfl ?_
      refine wq_buildZ Tryz.hZ Tryz.hT rfl rfl rfl rfl rfl rfl rfl rfl ?_
      refine wq_wt ?_
      refine wt_step rfl rfl (by ((repeat (first | refine Weak.same ?_ | refine Weak.off rfl ?_)); exact trivial)) ?_
      refine RS.cons ?_ (RS.nil)
      refine wl_buildRowZ Tryz.hZ Tryz.hT rfl rfl rfl rfl rfl rfl rfl rfl rfl rfl rfl fun bN => ?_
      refine wl_nil ?_
      refine ne_wt ?_
      refine wt_step rfl rfl (by ((repeat (first | refine Weak.same ?_ | refine Weak.off rfl ?_)); exact trivial)) ?_
      refine RS.cons ?_ (RS.nil)
      refine wl_appendTo (V := V) (len := i) (xs := foC (mrF b i)) 3 5 Tryz.vec28 (i + 1) (foC (mrF b (i + 1))) rfl rfl rfl rfl rfl rfl rfl rfl rfl rfl rfl hV rfl rfl rfl (by rw [hsuc, foC_app]; rfl) (by simp only [maxLen]; omega) (by omega) rfl ?_; intro gV cV jV hV1
      refine wl_nil ?_
      refine ne_wt ?_
      refine wt_stepF rfl rfl (by kernel_rfl) ?_
      refine RS.cons ?_ (RS.nil)
      refine wl_pure Tryz.hT rfl rfl rfl ?_
      refine wl_nil ?_
      refine ne_wt ?_
      refine wt_stepF rfl rfl (by kernel_rfl) ?_
      refine RS.cons ?_ (RS.nil)
      refine wl_storeBx 2 Tryz.hT rfl rfl rfl rfl rfl rfl rfl rfl rfl rfl rfl ?_
      refine wl_nil ?_
      refine ne_wt ?_
      refine wt_doneF rfl (by kernel_rfl) ?_
      exact ne_late ⟨⟨some gV, cV, jV⟩, hV1⟩ ⟨rfl, rfl, rfl, rfl, rfl, rfl, rfl, trivial⟩ [0, 1, 2, 3] (by decide) rfl
    intro V'
    refine zN ?_
    refine zE ?_
    refine zB ?_
    refine wl_pure Tryz.hT rfl rfl rfl ?_
    refine wl_upd 45 (.int .i64 ((i + 1 : Nat) : Int)) rfl (congrArg (Value.int .i64) (w64_succ (by omega))) ?_
    refine wl_pure Tryz.hT rfl rfl rfl ?_
    refine wl_nil ?_
    exact ne_loop (i + 1, V'.1) ⟨hlt, V'.2⟩ (by show b.fs.length - (i + 1) < b.fs.length - i; omega) ⟨rfl, rfl, rfl, rfl, rfl, rfl, rfl, trivial⟩ [] rfl
  have e : i = b.fs.length := by omega
  subst e
  refine wl_upd 30 (.bool false) rfl (congrArg Value.bool (decide_eq_false (by omega))) ?_
  refine wl_nil ?_
  refine zE ?_
  refine zA ?_
  refine zS rfl ?_
  refine zJ ?_
  iterate 2 refine zK ?_
  refine zL ?_
  refine zE ?_
  iterate 2 refine zA ?_
  refine zB ?_
  refine wl_pure Tryz.hT rfl rfl rfl ?_
  refine wl_loadBx 0 Tryz.hT rfl rfl rfl rfl rfl rfl rfl rfl ?_
  iterate 2 refine wl_pure Tryz.hT rfl rfl rfl ?_
  refine wl_nil ?_
  refine zE ?_
  refine zH ?_
  refine wc_newGone ?_
  refine wc_loop (X := Nat × Vec) (fun s => [(1, selfP b1), (2, selfP b2), (4, mirC b1), (5, selfP b5), (47, .slice q b.ss.length n), (48, .int .i64 (b.ss.length : Nat)), (49, .int .i64 (s.1 : Nat))]) (fun s => [bmB b1 b p m q n, bm0 b2, bmM b5 b (V.val b.fs.length) (s.2.val s.1), V.bx 46 (foC (mrF b b.fs.length)), s.2.bx 51 (spC (mrS b s.1))])
    (fun s => s.1 ≤ b.ss.length ∧ s.2.OK 3 s.1 (spC (mrS b s.1))) (fun s => b.ss.length - s.1) (0, Vec.empty) ⟨Nat.zero_le _, Vec.OK.empty 3⟩ ⟨rfl, rfl, rfl, rfl, rfl, rfl, rfl, trivial⟩ [] rfl ?_
  rintro ⟨j, U⟩ ⟨hj, hU⟩
  have hj : j ≤ b.ss.length := hj
  have hU : U.OK 3 j (spC (mrS b j)) := hU
  refine zA ?_
  refine zB ?_
  refine wl_pure Tryz.hT rfl rfl rfl ?_
  by_cases hlt : j < b.ss.length
  · refine wl_upd 50 (.bool true) rfl (congrArg Value.bool (decide_eq_true (by omega))) ?_
    refine wl_nil ?_
    refine zE ?_
    refine zA ?_
    refine zR rfl ?_
    refine zI ?_
    refine zE ?_
    refine zA ?_
    refine zH ?_
    refine zA ?_
    refine zB ?_
    obtain ⟨f, hfe⟩ : ∃ f, f = b.ss[j] := ⟨_, rfl⟩
    have hsuc := mrS_succ hlt
    rw [← hfe] at hsuc
    obtain ⟨n1, n2, n3⟩ := h.s f (hfe ▸ List.getElem_mem hlt)
    obtain ⟨g, off, hpe, hrow⟩ := hM.s.at_ hlt
    have hrow := hrow j hlt
    rw [← hfe] at hrow
    subst hpe
    refine wl_indexAddr Tryz.hT rfl rfl rfl rfl rfl rfl rfl (by omega) (by omega) ?_
    refine wl_load rfl rfl rfl rfl (fun W hp => RowAt.load 0 Tryz.hT rfl ((fun W1 hp => hrow.hp hp) W hp) rfl) ?_
    (refine wl_allocZ Tryz.hZ rfl rfl rfl rfl ?_; intro)
    refine wl_storeBx 5 Tryz.hT rfl rfl rfl rfl rfl rfl rfl rfl rfl rfl rfl ?_
    refine wl_nil ?_
    rename_i b9
    refine zE ?_
    refine wc_lateY (X := { V' : Vec // V'.OK 3 (j + 1) (spC (mrS b (j + 1))) }) [true, true, true, true, true, true, true, true, true, true, true, true, true, false, false, false, false] (fun _ => [(1, selfP b1), (2, selfP b2), (4, mirC b1), (5, selfP b5), (47, .slice (some ⟨g, off, none⟩) b.ss.length n), (48, .int .i64 (b.ss.length : Nat)), (49, .int .i64 (j : Nat))])
      (fun V' => [bmB b1 b p m (some ⟨g, off, none⟩) n, bm0 b2, bmM b5 b (V.val b.fs.length) (V'.1.val (j + 1)), V.bx 46 (foC (mrF b b.fs.length)), V'.1.bx 51 (spC (mrS b (j + 1)))])
      4 [bmB b1 b p m (some ⟨g, off, none⟩) n, bm0 b2, bmM b5 b (V.val b.fs.length) (U.val j), V.bx 46 (foC (mrF b b.fs.length)), U.bx 51 (spC (mrS b j)), ⟨b9, 51, [str (numS f.1), str (numS f.2.1), str (numS f.2.2)], true, none⟩] Tryz.mixed (by kernel_rfl) ?_ ?_
    · refine wq_pure Tryz.hT rfl rfl rfl ?_
      refine wq_loadBx 2 Tryz.hT rfl rfl rfl rfl rfl rfl rfl rfl ?_
      iterate 2 refine wq_pure Tryz.hT rfl rfl rfl ?_
      refine wq_loadBx 5 Tryz.hT rfl rfl rfl rfl rfl rfl rfl rfl ?_
      refine wq_call1 (capt := [selfP b1]) rfl rfl rfl rfl rfl rfl (by kernel_rfl) (fun W1 hp => mirror1_gives b1 b.len f.2.1 _ W1 (h.len.z2 n2) (row_len hp 0 rfl) (hv.hp hp) (ht.hp hp)) ?_
      iterate 2 refine wq_pure Tryz.hT rfl rfl rfl ?_
      refine wq_loadBx 5 Tryz.hT rfl rfl rfl rfl rfl rfl rfl rfl ?_
      refine wq_call1 (capt := [selfP b1]) rfl rfl rfl rfl rfl rfl (by kernel_rfl) (fun W1 hp => mirror1_gives b1 b.len f.1 _ W1 (h.len.z2 n1) (row_len hp 0 rfl) (hv.hp hp) (ht.hp hp)) ?_
      refine wq_pure Tryz.hT rfl rfl rfl ?_
      refine wq_loadBx 5 Tryz.hT rfl rfl rfl rfl rfl rfl rfl rfl ?_
      refine wq_buildZ Tryz.hZ Tryz.hT rfl rfl rfl rfl rfl rfl rfl rfl ?_
      refine wq_wt ?_
      refine wt_step rfl rfl (by ((repeat (first | refine Weak.same ?_ | refine Weak.off rfl ?_)); exact trivial)) ?_
      refine RS.cons ?_ (RS.nil)
      refine wl_buildRowZ Tryz.hZ Tryz.hT rfl rfl rfl rfl rfl rfl rfl rfl rfl rfl rfl fun bN => ?_
      refine wl_nil ?_
      refine ne_wt ?_
      refine wt_step rfl rfl (by ((repeat (first | refine Weak.same ?_ | refine Weak.off rfl ?_)); exact trivial)) ?_
      refine RS.cons ?_ (RS.nil)
      refine wl_appendTo (V := U) (len := j) (xs := spC (mrS b j)) 4 6 Tryz.vec29 (j + 1) (spC (mrS b (j + 1))) rfl rfl rfl rfl rfl rfl rfl rfl rfl rfl rfl hU rfl rfl rfl (by rw [hsuc, spC_app]; rfl) (by simp only [maxLen]; omega) (by omega) rfl ?_; intro gV cV jV hV1
      refine wl_nil ?_
      refine ne_wt ?_
      refine wt_stepF rfl rfl (by kernel_rfl) ?_
      refine RS.cons ?_ (RS.nil)
      refine wl_pure Tryz.hT rfl rfl rfl ?_
      refine wl_nil ?_
      refine ne_wt ?_
      refine wt_stepF rfl rfl (by kernel_rfl) ?_
      refine RS.cons ?_ (RS.nil)
      refine wl_storeBx 2 Tryz.hT rfl rfl rfl rfl rfl rfl rfl rfl rfl rfl rfl ?_
      refine wl_nil ?_
      refine ne_wt ?_
      refine wt_doneF rfl (by kernel_rfl) ?_
      exact ne_late ⟨⟨some gV, cV, jV⟩, hV1⟩ ⟨rfl, rfl, rfl, rfl, rfl, rfl, rfl, trivial⟩ [0, 1, 2, 3, 4] (by decide) rfl
    intro V'
    refine zN ?_
    refine zE ?_
    refine zB ?_
    refine wl_pure Tryz.hT rfl rfl rfl ?_
    refine wl_upd 69 (.int .i64 ((j + 1 : Nat) : Int)) rfl (congrArg (Value.int .i64) (w64_succ (by omega))) ?_
    refine wl_pure Tryz.hT rfl rfl rfl ?_
    refine wl_nil ?_
    exact ne_loop (j + 1, V'.1) ⟨hlt, V'.2⟩ (by show b.ss.length - (j + 1) < b.ss.length - j; omega) ⟨rfl, rfl, rfl, rfl, rfl, rfl, rfl, trivial⟩ [] rfl
  have e : j = b.ss.length := by omega
  subst e
  refine wl_upd 50 (.bool false) rfl (congrArg Value.bool (decide_eq_false (by omega))) ?_
  refine wl_nil ?_
  have l1 : b.mir.fs.length = b.fs.length := List.length_map _
  have l2 : b.mir.ss.length = b.ss.length := List.length_map _
  have e1 := mrF_all b
  have e2 := mrS_all b
  obtain ⟨VV, rfl, rfl⟩ : ∃ VV : BmV b.mir, VV.f = V ∧ VV.s = U := ⟨⟨V, U, by rw [l1, ← e1]; exact hV, by rw [l2, ← e2]; exact hU⟩, rfl, rfl⟩
  refine ne_bx (bxs' := [bmB b1 b p m q n, bm0 b2, bmB b5 b.mir (vAdr VV.f) (vCap VV.f) (vAdr VV.s) (vCap VV.s), VV.bf, VV.bs]) (by
    rw [vec_val hV, vec_val hU]
    show [_, _, (⟨b5, 31, [_, _, _, .slice (vAdr VV.f) b.fs.length (vCap VV.f), .slice (vAdr VV.s) b.ss.length (vCap VV.s)], true, none⟩ : Bx), VV.f.bx 46 (foC (mrF b b.fs.length)), VV.s.bx 51 (spC (mrS b b.ss.length))] = [_, _, (⟨b5, 31, [_, _, _, .slice (vAdr VV.f) b.mir.fs.length (vCap VV.f), .slice (vAdr VV.s) b.mir.ss.length (vCap VV.s)], true, none⟩ : Bx), _, _]
    rw [e1, e2, l1, l2]
    rfl) ?_
  refine zE ?_
  refine zA ?_
  refine zS rfl ?_
  refine zJ ?_
  iterate 2 refine zK ?_
  refine zL ?_
  refine zE ?_
  refine zA ?_
  refine zB ?_
  refine wl_loadBx 2 Tryz.hT rfl rfl rfl rfl rfl rfl rfl rfl ?_
  refine wl_storeBx 1 Tryz.hT rfl rfl rfl rfl rfl rfl rfl rfl rfl rfl rfl ?_
  refine wl_pure Tryz.hT rfl rfl rfl ?_
  refine wl_nil ?_
  refine zE ?_
  refine zO ?_
  exact ne_ret2 Tryz.hT rfl (.cell 1 rfl rfl rfl rfl rfl) (.tmp rfl) VV rfl trivial fun W1 hp => NewBx.of_hp (hp.pick (l := [VV.bf, VV.bs]) [3, 4] (by decide) rfl)
end Go.Proofs.YtddadjbflgdomaaGreatDoor
namespace Go.Proofs.YtddadjbflgdomaaGreatDoor
open Go Go.RowKit Go.Am Go.Lib
set_option maxRecDepth 10000
-- BOXES 3
-- CODE2
theorem num_eqI (x y : List UInt8) (W : World) : (Op.equalIn 9999 27 (str x) (str y)).run Tryz.prog W = .ok (decide (x = y)) W := by
  rw [run_equalIn_string W 9998 27 _ _ Tryz.underlying27, strEqB]
theorem fo_ne (W : World) (a b : List UInt8) : (binOp .neq 46 (.agg #[str a, str b]) (.agg #[str a, str b])).run Tryz.prog W = .ok (.bool false) W := by
  rw [run_neq_struct, run_equalIn_agg W 9999 46 _ _ (by kernel_rfl) (by kernel_rfl)]
  have hf : ∃ f1 f2 : Field, (Tryz.prog.fieldsOf 46).toList = [f1, f2] ∧ (f1.name ≠ "_" ∧ f1.type = 27 ∧ f1.offset = 0) ∧ (f2.name ≠ "_" ∧ f2.type = 27 ∧ f2.offset = 1) := by
    unfold Program.fieldsOf; rw [Tryz.underlying46]
    exact ⟨_, _, rfl, ⟨by decide, rfl, rfl⟩, ⟨by decide, rfl, rfl⟩⟩
  obtain ⟨f1, f2, hf, ⟨n1, t1, o1⟩, ⟨n2, t2, o2⟩⟩ := hf
  rw [hf]
  simp [Op.eqFields, part, Tryz.isAgg27, num_eqI, n1, n2, t1, t2, o1, o2]
theorem sp_ne (W : World) (a b c : List UInt8) : (binOp .neq 51 (.agg #[str a, str b, str c]) (.agg #[str a, str b, str c])).run Tryz.prog W = .ok (.bool false) W := by
  rw [run_neq_struct, run_equalIn_agg W 9999 51 _ _ (by kernel_rfl) (by kernel_rfl)]
  have hf : ∃ f1 f2 f3 : Field, (Tryz.prog.fieldsOf 51).toList = [f1, f2, f3] ∧ (f1.name ≠ "_" ∧ f1.type = 27 ∧ f1.offset = 0) ∧ (f2.name ≠ "_" ∧ f2.type = 27 ∧ f2.offset = 1) ∧ (f3.name ≠ "_" ∧ f3.type = 27 ∧ f3.offset = 2) := by
    unfold Program.fieldsOf; rw [Tryz.underlying51]
    exact ⟨_, _, _, rfl, ⟨by decide, rfl, rfl⟩, ⟨by decide, rfl, rfl⟩, ⟨by decide, rfl, rfl⟩⟩
  obtain ⟨f1, f2, f3, hf, ⟨n1, t1, o1⟩, ⟨n2, t2, o2⟩, ⟨n3, t3, o3⟩⟩ := hf
  rw [hf]
  simp [Op.eqFields, part, Tryz.isAgg27, num_eqI, n1, n2, n3, t1, t2, t3, o1, o2, o3]
section
variable {N : Nat} {D : List Deferred} {ops : List Oper} {o : Oper} {rest : List Oper} {env : Env} {A A2 : World → Prop} {R : Act → World → Prop}
theorem wq_foNe (a b : List UInt8) {d : Nat} {u : TypeId} {x y : Operand} (hg : guardE ops N env o = some true) (hd : o.dst = some d) (ho : o.op = .binOp .neq 46 x y u)
    (hx : evO N env x = some (.agg #[str a, str b])) (hy : evO N env y = some (.agg #[str a, str b]))
    (h : WQ Tryz.prog N D ops A2 R rest ((d, .bool false) :: env) A) : WQ Tryz.prog N D ops A2 R (o :: rest) env A :=
  wq_val hg hd (fun c e => by rw [ho] at e; cases e) (fun _ W hρ _ => by
    have hm : Tryz.prog.eqGuardType Tryz.prog.depth 46 = false := by kernel_rfl
    simp [execOp, ho, hρ _ _ hx, hρ _ _ hy, run_eqGuard_agg W .neq 46 x y _ _ hm, fo_ne]) h
theorem wq_spNe (a b c : List UInt8) {d : Nat} {u : TypeId} {x y : Operand} (hg : guardE ops N env o = some true) (hd : o.dst = some d) (ho : o.op = .binOp .neq 51 x y u)
    (hx : evO N env x = some (.agg #[str a, str b, str c])) (hy : evO N env y = some (.agg #[str a, str b, str c]))
    (h : WQ Tryz.prog N D ops A2 R rest ((d, .bool false) :: env) A) : WQ Tryz.prog N D ops A2 R (o :: rest) env A :=
  wq_val hg hd (fun c e => by rw [ho] at e; cases e) (fun _ W hρ _ => by
    have hm : Tryz.prog.eqGuardType Tryz.prog.depth 51 = false := by kernel_rfl
    simp [execOp, ho, hρ _ _ hx, hρ _ _ hy, run_eqGuard_agg W .neq 51 x y _ _ hm, sp_ne]) h
end
set_option maxHeartbeats 16000000 in
theorem same_gives (b : BmP) (hlf : b.fs.length ≤ 1000) (hls : b.ss.length ≤ 1000) (p q p' q' : Option Addr) (m n m' n' : Nat) (W : World) (hM : BmM W b p q) (hM' : BmM W b p' q') :
    CallsR Tryz.prog 25 #[bmV b p m q n, bmV b p' m' q' n'] W (fun _ : Unit => .bool true) (fun _ => True) (fun _ => []) := by
  refine calls_enter (args := [bmV b p m q n, bmV b p' m' q' n']) Tryz.func25 rfl rfl rfl ?_
  refine zA ?_
  refine zB ?_
  (refine wl_box rfl rfl rfl rfl ?_; intro)
  (refine wl_box rfl rfl rfl rfl ?_; intro)
  refine wl_pure Tryz.hT rfl rfl rfl ?_
  refine wl_nil ?_
  rename_i b2 b3
  refine zE ?_
  iterate 2 refine zA ?_
  refine zB ?_
  refine wl_pure Tryz.hT rfl rfl rfl ?_
  refine wl_loadBx 0 Tryz.hT rfl rfl rfl rfl rfl rfl rfl rfl ?_
  refine wl_pure Tryz.hT rfl rfl rfl ?_
  refine wl_loadBx 1 Tryz.hT rfl rfl rfl rfl rfl rfl rfl rfl ?_
  refine wl_pure Tryz.hT rfl rfl rfl ?_
  refine wl_upd 11 (.bool false) rfl (congrArg Value.bool (by show (!_) = false; rw [strEqB, decide_eq_true rfl]; rfl)) ?_
  iterate 2 refine wl_pure Tryz.hT rfl rfl rfl ?_
  refine wl_loadBx 0 Tryz.hT rfl rfl rfl rfl rfl rfl rfl rfl ?_
  refine wl_pure Tryz.hT rfl rfl rfl ?_
  refine wl_loadBx 1 Tryz.hT rfl rfl rfl rfl rfl rfl rfl rfl ?_
  refine wl_pure Tryz.hT rfl rfl rfl ?_
  refine wl_upd 17 (.bool false) rfl (congrArg Value.bool (by show (!_) = false; rw [strEqB, decide_eq_true rfl]; rfl)) ?_
  iterate 3 refine wl_pure Tryz.hT rfl rfl rfl ?_
  refine wl_loadBx 0 Tryz.hT rfl rfl rfl rfl rfl rfl rfl rfl ?_
  refine wl_pure Tryz.hT rfl rfl rfl ?_
  refine wl_loadBx 1 Tryz.hT rfl rfl rfl rfl rfl rfl rfl rfl ?_
  refine wl_pure Tryz.hT rfl rfl rfl ?_
  refine wl_upd 24 (.bool false) rfl (congrArg Value.bool (by show (!_) = false; rw [strEqB, decide_eq_true rfl]; rfl)) ?_
  iterate 3 refine wl_pure Tryz.hT rfl rfl rfl ?_
  refine wl_loadBx 0 Tryz.hT rfl rfl rfl rfl rfl rfl rfl rfl ?_
  iterate 2 refine wl_pure Tryz.hT rfl rfl rfl ?_
  refine wl_loadBx 1 Tryz.hT rfl rfl rfl rfl rfl rfl rfl rfl ?_
  iterate 2 refine wl_pure Tryz.hT rfl rfl rfl ?_
  refine wl_upd 33 (.bool false) rfl (congrArg Value.bool (by simp)) ?_
  iterate 3 refine wl_pure Tryz.hT rfl rfl rfl ?_
  refine wl_loadBx 0 Tryz.hT rfl rfl rfl rfl rfl rfl rfl rfl ?_
  iterate 2 refine wl_pure Tryz.hT rfl rfl rfl ?_
  refine wl_loadBx 1 Tryz.hT rfl rfl rfl rfl rfl rfl rfl rfl ?_
  iterate 2 refine wl_pure Tryz.hT rfl rfl rfl ?_
  refine wl_upd 42 (.bool false) rfl (congrArg Value.bool (by simp)) ?_
  refine wl_pure Tryz.hT rfl rfl rfl ?_
  refine wl_nil ?_
  refine zE ?_
  refine zS rfl ?_
  refine zI ?_
  refine zE ?_
  iterate 2 refine zA ?_
  refine zB ?_
  refine wl_pure Tryz.hT rfl rfl rfl ?_
  refine wl_nil ?_
  refine zE ?_
  refine zH ?_
  refine wc_loop (X := Nat) (fun i => [(2, selfP b2), (3, selfP b3), (5, .int .i64 (i : Nat))]) (fun _ => [bmB b2 b p m q n, bmB b3 b p' m' q' n']) (fun i => i ≤ b.fs.length) (fun i => b.fs.length - i) 0 (Nat.zero_le _) ⟨rfl, rfl, rfl, trivial⟩ [] rfl ?_
  intro i hi
  have hi : i ≤ b.fs.length := hi
  iterate 2 refine zA ?_
  refine zB ?_
  iterate 2 refine wl_pure Tryz.hT rfl rfl rfl ?_
  refine wl_loadBx 0 Tryz.hT rfl rfl rfl rfl rfl rfl rfl rfl ?_
  iterate 2 refine wl_pure Tryz.hT rfl rfl rfl ?_
  by_cases hlt : i < b.fs.length
  · refine wl_upd 48 (.bool true) rfl (congrArg Value.bool (decide_eq_true (by omega))) ?_
    refine wl_nil ?_
    refine zE ?_
    refine zR rfl ?_
    refine zI ?_
    refine zE ?_
    refine zA ?_
    refine zH ?_
    refine zA ?_
    refine zT Tryz.mixed (by kernel_rfl) ?_
    obtain ⟨f, hfe⟩ : ∃ f, f = b.fs[i] := ⟨_, rfl⟩
    obtain ⟨g, off, hpe, hrow⟩ := hM.f.at_ hlt
    have hrow := hrow i hlt
    rw [← hfe] at hrow
    obtain ⟨g', off', hpe', hrow'⟩ := hM'.f.at_ hlt
    have hrow' := hrow' i hlt
    rw [← hfe] at hrow'
    subst hpe
    subst hpe'
    refine wq_pure Tryz.hT rfl rfl rfl ?_
    refine wq_loadBx 0 Tryz.hT rfl rfl rfl rfl rfl rfl rfl rfl ?_
    refine wq_pure Tryz.hT rfl rfl rfl ?_
    refine wq_indexAddr Tryz.hT rfl rfl rfl rfl rfl rfl rfl (by omega) (by omega) ?_
    refine wq_load rfl rfl rfl rfl (fun W hp => RowAt.load 0 Tryz.hT rfl ((fun W1 hp => show RowAt W1 g (off + i * 2) [str (numS f.1), str (numS f.2)] from hrow.hp hp) W hp) rfl) ?_
    refine wq_pure Tryz.hT rfl rfl rfl ?_
    refine wq_loadBx 1 Tryz.hT rfl rfl rfl rfl rfl rfl rfl rfl ?_
    refine wq_pure Tryz.hT rfl rfl rfl ?_
    refine wq_indexAddr Tryz.hT rfl rfl rfl rfl rfl rfl rfl (by omega) (by omega) ?_
    refine wq_load rfl rfl rfl rfl (fun W hp => RowAt.load 0 Tryz.hT rfl ((fun W1 hp => show RowAt W1 g' (off' + i * 2) [str (numS f.1), str (numS f.2)] from hrow'.hp hp) W hp) rfl) ?_
    refine wq_foNe (numS f.1) (numS f.2) rfl rfl rfl rfl rfl ?_
    refine wq_nil ?_
    refine wl_nil ?_
    refine zE ?_
    refine zS rfl ?_
    refine zI ?_
    refine zN ?_
    refine zE ?_
    refine zB ?_
    iterate 2 refine wl_pure Tryz.hT rfl rfl rfl ?_
    refine wl_upd 50 (.int .i64 ((i + 1 : Nat) : Int)) rfl (congrArg (Value.int .i64) (w64_succ (by omega))) ?_
    refine wl_pure Tryz.hT rfl rfl rfl ?_
    refine wl_nil ?_
    exact ne_loop (i + 1) hlt (by show b.fs.length - (i + 1) < b.fs.length - i; omega) ⟨rfl, rfl, rfl, trivial⟩ [] rfl
  refine wl_upd 48 (.bool false) rfl (congrArg Value.bool (decide_eq_false (by omega))) ?_
  refine wl_nil ?_
  refine zE ?_
  refine zS rfl ?_
  refine zJ ?_
  iterate 2 refine zK ?_
  refine zL ?_
  refine zE ?_
  iterate 2 refine zA ?_
  refine zB ?_
  refine wl_pure Tryz.hT rfl rfl rfl ?_
  refine wl_nil ?_
  refine zE ?_
  refine zH ?_
  refine wc_loop (X := Nat) (fun i => [(2, selfP b2), (3, selfP b3), (6, .int .i64 (i : Nat))]) (fun _ => [bmB b2 b p m q n, bmB b3 b p' m' q' n']) (fun i => i ≤ b.ss.length) (fun i => b.ss.length - i) 0 (Nat.zero_le _) ⟨rfl, rfl, rfl, trivial⟩ [] rfl ?_
  intro i hi
  have hi : i ≤ b.ss.length := hi
  iterate 2 refine zA ?_
  refine zB ?_
  iterate 2 refine wl_pure Tryz.hT rfl rfl rfl ?_
  refine wl_loadBx 0 Tryz.hT rfl rfl rfl rfl rfl rfl rfl rfl ?_
  iterate 2 refine wl_pure Tryz.hT rfl rfl rfl ?_
  by_cases hlt : i < b.ss.length
  · refine wl_upd 66 (.bool true) rfl (congrArg Value.bool (decide_eq_true (by omega))) ?_
    refine wl_nil ?_
    refine zE ?_
    refine zR rfl ?_
    refine zI ?_
    refine zE ?_
    refine zA ?_
    refine zH ?_
    refine zA ?_
    refine zT Tryz.mixed (by kernel_rfl) ?_
    obtain ⟨f, hfe⟩ : ∃ f, f = b.ss[i] := ⟨_, rfl⟩
    obtain ⟨g, off, hpe, hrow⟩ := hM.s.at_ hlt
    have hrow := hrow i hlt
    rw [← hfe] at hrow
    obtain ⟨g', off', hpe', hrow'⟩ := hM'.s.at_ hlt
    have hrow' := hrow' i hlt
    rw [← hfe] at hrow'
    subst hpe
    subst hpe'
    refine wq_pure Tryz.hT rfl rfl rfl ?_
    refine wq_loadBx 0 Tryz.hT rfl rfl rfl rfl rfl rfl rfl rfl ?_
    refine wq_pure Tryz.hT rfl rfl rfl ?_
    refine wq_indexAddr Tryz.hT rfl rfl rfl rfl rfl rfl rfl (by omega) (by omega) ?_
    refine wq_load rfl rfl rfl rfl (fun W hp => RowAt.load 0 Tryz.hT rfl ((fun W1 hp => show RowAt W1 g (off + i * 3) [str (numS f.1), str (numS f.2.1), str (numS f.2.2)] from hrow.hp hp) W hp) rfl) ?_
    refine wq_pure Tryz.hT rfl rfl rfl ?_
    refine wq_loadBx 1 Tryz.hT rfl rfl rfl rfl rfl rfl rfl rfl ?_
    refine wq_pure Tryz.hT rfl rfl rfl ?_
    refine wq_indexAddr Tryz.hT rfl rfl rfl rfl rfl rfl rfl (by omega) (by omega) ?_
    refine wq_load rfl rfl rfl rfl (fun W hp => RowAt.load 0 Tryz.hT rfl ((fun W1 hp => show RowAt W1 g' (off' + i * 3) [str (numS f.1), str (numS f.2.1), str (numS f.2.2)] from hrow'.hp hp) W hp) rfl) ?_
    refine wq_spNe (numS f.1) (numS f.2.1) (numS f.2.2) rfl rfl rfl rfl rfl ?_
    refine wq_nil ?_
    refine wl_nil ?_
    refine zE ?_
    refine zS rfl ?_
    refine zI ?_
    refine zN ?_
    refine zE ?_
    refine zB ?_
    iterate 2 refine wl_pure Tryz.hT rfl rfl rfl ?_
    refine wl_upd 68 (.int .i64 ((i + 1 : Nat) : Int)) rfl (congrArg (Value.int .i64) (w64_succ (by omega))) ?_
    refine wl_pure Tryz.hT rfl rfl rfl ?_
    refine wl_nil ?_
    exact ne_loop (i + 1) hlt (by show b.ss.length - (i + 1) < b.ss.length - i; omega) ⟨rfl, rfl, rfl, trivial⟩ [] rfl
  refine wl_upd 66 (.bool false) rfl (congrArg Value.bool (decide_eq_false (by omega))) ?_
  refine wl_nil ?_
  refine zE ?_
  refine zS rfl ?_
  refine zJ ?_
  iterate 2 refine zK ?_
  refine zL ?_
  refine zE ?_
  refine zA ?_
  refine zB ?_
  refine wl_pure Tryz.hT rfl rfl rfl ?_
  refine wl_nil ?_
  refine zE ?_
  refine zO ?_
  exact ne_ret1 Tryz.hT rfl (.tmp rfl) () rfl trivial fun W _ => NewBx.nil _ _
end Go.Proofs.YtddadjbflgdomaaGreatDoor
namespace Go.Proofs.YtddadjbflgdomaaGreatDoor
open Go Go.RowKit Go.Am Go.Lib
set_option maxRecDepth 10000
-- BOXES 10
-- CODE2
theorem half_sub {a c : Nat} (h : c ≤ a) : nrm ((a - c : Nat) : Int) 2 = nrm (a : Nat) 2 - nrm (c : Nat) 2 := by
  rw [half_eq, half_eq, half_eq]
  have e : (((a - c : Nat) : Int) : Rat) = ((a : Nat) : Int) - ((c : Nat) : Int) := by
    rw [← Rat.intCast_sub]; congr 1; omega
  rw [e]
  grind
theorem half_place {x : SmB} {k : Nat} (hk : k ≤ x.n) : (0 : Rat) ≤ nrm (k : Nat) 2 ∧ nrm (k : Nat) 2 ≤ x.of.len := by
  refine ⟨?_, ?_⟩
  · rw [← half_zero, half_le]; omega
  · show nrm (k : Nat) 2 ≤ nrm (x.n : Int) 2
    rw [half_le]; omega
theorem half_in {x : SmB} {k : Nat} (hk : k ≤ x.n) : InD (2 * 1) (100 * 1) (nrm (k : Nat) 2) := by
  have := x.n_rng
  exact InD.ofN (D := 2) (M := 100) _ (by decide) (by omega)
set_option maxHeartbeats 32000000 in
theorem mirrors_gives (x : SmB) (a : Nat) (ha : a < 256) (p q : Option Addr) (m n : Nat) (W : World) (hM : SmbM W x p q m n) (hv : MaxP W) (ht : TabP W) :
    CallsR Tryz.prog 8 #[smbV x p q m n, .int .u8 (a : Nat)] W (fun _ : Unit => .bool true) (fun _ => True) (fun _ => []) := by
  have hg := SmB.good hM.ok
  have hC := hg.chk
  have hR := hg.rc
  have hg' := hg.mir
  have hC' := hg'.chk
  have hR' := hg'.rc
  have hn := x.n_rng
  have hL := hg.lies
  have ba := hM.ba
  have hfn := hg.hf.fn
  have hsn := hg.hf.sn
  obtain ⟨k, hk⟩ : ∃ k, k = a % (x.n + 1) := ⟨_, rfl⟩
  have hkn : k ≤ x.n := by
    have : k < x.n + 1 := by rw [hk]; exact Nat.mod_lt _ (by omega)
    omega
  obtain ⟨k', hk'⟩ : ∃ k, k = x.n - (a % (x.n + 1)) := ⟨_, rfl⟩
  rw [← hk] at hk'
  obtain ⟨u, hu⟩ : ∃ u, u = nrm (k : Nat) 2 := ⟨_, rfl⟩
  obtain ⟨w, hw⟩ : ∃ u, u = nrm (k' : Nat) 2 := ⟨_, rfl⟩
  have ew : w = x.of.len - u := by
    rw [hw, hu, hk', half_sub hkn]; rfl
  have iu : InD (2 * 1) (100 * 1) u := hu ▸ half_in hkn
  have iw : InD (2 * 1) (100 * 1) w := hw ▸ half_in (x := x) (by omega)
  have pu : PlQ x.of u := by
    obtain ⟨h1, h2⟩ := half_place hkn
    exact BmG.pl 1 (by decide) (by decide) iu (hu ▸ h1) (hu ▸ h2)
  have pw : PlQ x.of.mir w := by
    obtain ⟨h1, h2⟩ := half_place (x := x) (k := k') (by omega)
    exact BmG.pl (b := x.of.mir) 1 (by decide) (by decide) iw (hw ▸ h1) (hw ▸ h2)
  have mu := (hg.mo 1 (by decide) (by decide) iu).1
  have mw := (hg'.mo 1 (by decide) (by decide) iw).1
  refine calls_enter (args := [smbV x p q m n, .int .u8 (a : Nat)]) Tryz.func8 rfl rfl rfl ?_
  refine zA ?_
  refine zB ?_
  (refine wl_box rfl rfl rfl rfl ?_; intro)
  refine wl_pure Tryz.hT rfl rfl rfl ?_
  refine wl_nil ?_
  rename_i b2
  refine zE ?_
  refine zA ?_
  refine zB ?_
  refine wl_loadBx 0 Tryz.hT rfl rfl rfl rfl rfl rfl rfl rfl ?_
  refine wl_call (X := BmV x.of) rfl rfl rfl rfl rfl rfl (by kernel_rfl) (fun W hp => lawof_gives x p q m n W (hM.hp hp) (hv.hp hp) (ht.hp hp)) ?_
  intro V _
  iterate 3 refine wl_pure Tryz.hT rfl rfl rfl ?_
  (refine wl_allocZ Tryz.hZ rfl rfl rfl rfl ?_; intro)
  refine wl_storeBx 3 Tryz.hT rfl rfl rfl rfl rfl rfl rfl rfl rfl rfl rfl ?_
  refine wl_pure Tryz.hT rfl rfl rfl ?_
  refine wl_nil ?_
  rename_i b5
  refine zE ?_
  refine zA ?_
  refine zB ?_
  refine wl_loadBx 3 Tryz.hT rfl rfl rfl rfl rfl rfl rfl rfl ?_
  refine wl_call (X := BmV x.of.mir) rfl rfl rfl rfl rfl rfl (by kernel_rfl) (fun W1 hp => bMirror_gives x.of hC (vAdr V.f) (vAdr V.s) (vCap V.f) (vCap V.s) W1 (V.m 1 2 rfl rfl hp hv ht)) ?_
  intro V1 _
  iterate 3 refine wl_pure Tryz.hT rfl rfl rfl ?_
  (refine wl_allocZ Tryz.hZ rfl rfl rfl rfl ?_; intro)
  refine wl_storeBx 6 Tryz.hT rfl rfl rfl rfl rfl rfl rfl rfl rfl rfl rfl ?_
  refine wl_pure Tryz.hT rfl rfl rfl ?_
  refine wl_nil ?_
  rename_i b7
  refine zE ?_
  refine zA ?_
  refine zB ?_
  refine wl_loadBx 6 Tryz.hT rfl rfl rfl rfl rfl rfl rfl rfl ?_
  refine wl_call (X := BmV x.of) rfl rfl rfl rfl rfl rfl (by kernel_rfl) (fun W1 hp => (by
    have h := bMirror_gives x.of.mir hC' (vAdr V1.f) (vAdr V1.s) (vCap V1.f) (vCap V1.s) W1 (V1.m 4 5 rfl rfl hp hv ht)
    rw [mir_mir x.of] at h
    exact h)) ?_
  intro V2 _
  iterate 3 refine wl_pure Tryz.hT rfl rfl rfl ?_
  (refine wl_allocZ Tryz.hZ rfl rfl rfl rfl ?_; intro)
  refine wl_storeBx 9 Tryz.hT rfl rfl rfl rfl rfl rfl rfl rfl rfl rfl rfl ?_
  refine wl_pure Tryz.hT rfl rfl rfl ?_
  refine wl_nil ?_
  rename_i b9
  refine zE ?_
  iterate 2 refine zA ?_
  refine zB ?_
  iterate 11 refine wl_pure Tryz.hT rfl rfl rfl ?_
  refine wl_loadBx 9 Tryz.hT rfl rfl rfl rfl rfl rfl rfl rfl ?_
  refine wl_loadBx 3 Tryz.hT rfl rfl rfl rfl rfl rfl rfl rfl ?_
  refine wl_call1 rfl rfl rfl rfl rfl rfl (by kernel_rfl) (fun W1 hp => same_gives x.of (by omega) (by omega) (vAdr V2.f) (vAdr V2.s) (vAdr V.f) (vAdr V.s) (vCap V2.f) (vCap V2.s) (vCap V.f) (vCap V.s) W1 (V2.m 7 8 rfl rfl hp hv ht) (V.m 1 2 rfl rfl hp hv ht)) ?_
  iterate 2 refine wl_pure Tryz.hT rfl rfl rfl ?_
  refine wl_nil ?_
  refine zE ?_
  refine zS rfl ?_
  refine zI ?_
  refine zE ?_
  refine zA ?_
  refine zB ?_
  refine wl_pure Tryz.hT rfl rfl rfl ?_
  refine wl_loadBx 0 Tryz.hT rfl rfl rfl rfl rfl rfl rfl rfl ?_
  refine wl_cvA Tryz.underlying5 Tryz.underlying3 rfl rfl rfl rfl ?_
  refine wl_upd 54 (.int .i64 (x.a : Nat)) rfl (congrArg (Value.int .i64) (w64_nat (by omega))) ?_
  refine wl_rem rfl rfl rfl rfl rfl (by decide) ?_
  refine wl_upd 55 (.int .i64 ((x.a % 24 : Nat) : Int)) rfl (congrArg (Value.int .i64) (by rw [Int.tmod_eq_emod_of_nonneg (by omega)]; omega)) ?_
  refine wl_pure Tryz.hT rfl rfl rfl ?_
  refine wl_upd 56 (.int .i64 (x.n : Nat)) rfl (congrArg (Value.int .i64) (by show w64 (((x.a % 24 : Nat) : Int) + 2) = _; rw [w64_id (by omega) (by omega)]; unfold SmB.n; omega)) ?_
  refine wl_pure Tryz.hT rfl rfl rfl ?_
  refine wl_nil ?_
  refine zE ?_
  refine zA ?_
  refine zB ?_
  refine wl_pure Tryz.hT rfl rfl rfl ?_
  refine wl_cvA Tryz.underlying5 Tryz.underlying3 rfl rfl rfl rfl ?_
  refine wl_upd 58 (.int .i64 (a : Nat)) rfl (congrArg (Value.int .i64) (w64_nat (by omega))) ?_
  iterate 2 refine wl_pure Tryz.hT rfl rfl rfl ?_
  refine wl_upd 60 (.int .i64 ((x.n + 1 : Nat) : Int)) rfl (congrArg (Value.int .i64) (w64_succ (by omega))) ?_
  refine wl_rem rfl rfl rfl rfl rfl (by omega) ?_
  refine wl_upd 61 (.int .i64 (k : Nat)) rfl (congrArg (Value.int .i64) (by rw [Int.tmod_eq_emod_of_nonneg (by omega), hk]; exact (Int.natCast_emod _ _).symm)) ?_
  refine wl_pure Tryz.hT rfl rfl rfl ?_
  refine wl_nil ?_
  refine zE ?_
  refine zA ?_
  refine zB ?_
  refine wl_loadBx 3 Tryz.hT rfl rfl rfl rfl rfl rfl rfl rfl ?_
  refine wl_call1 rfl rfl rfl rfl rfl rfl (by kernel_rfl) (fun W1 hp => bReactions_gives x.of hC hR (vAdr V.f) (vAdr V.s) (vCap V.f) (vCap V.s) W1 (V.m 1 2 rfl rfl hp hv ht)) ?_
  iterate 7 refine wl_pure Tryz.hT rfl rfl rfl ?_
  refine wl_nil ?_
  refine zE ?_
  refine zA ?_
  refine zB ?_
  refine wl_loadBx 6 Tryz.hT rfl rfl rfl rfl rfl rfl rfl rfl ?_
  refine wl_call1 rfl rfl rfl rfl rfl rfl (by kernel_rfl) (fun W1 hp => bReactions_gives x.of.mir hC' hR' (vAdr V1.f) (vAdr V1.s) (vCap V1.f) (vCap V1.s) W1 (V1.m 4 5 rfl rfl hp hv ht)) ?_
  iterate 7 refine wl_pure Tryz.hT rfl rfl rfl ?_
  refine wl_nil ?_
  refine zE ?_
  refine zA ?_
  refine zT Tryz.mixed (by kernel_rfl) ?_
  refine wq_loadBx 3 Tryz.hT rfl rfl rfl rfl rfl rfl rfl rfl ?_
  refine wq_pure Tryz.hT rfl rfl rfl ?_
  refine wq_call1 rfl rfl rfl rfl rfl rfl (by kernel_rfl) (fun W1 hp => (bnum_gives (k : Nat) (by omega) W1 (ht.hp hp)).cast (by rw [← hu])) ?_
  refine wq_call1 rfl rfl rfl rfl rfl rfl (by kernel_rfl) (fun W1 hp => bMoment_gives x.of hC u pu mu (vAdr V.f) (vAdr V.s) (vCap V.f) (vCap V.s) W1 (V.m 1 2 rfl rfl hp hv ht)) ?_
  iterate 5 refine wq_pure Tryz.hT rfl rfl rfl ?_
  refine wq_nil ?_
  refine wl_nil ?_
  refine zE ?_
  refine zA ?_
  refine zT Tryz.mixed (by kernel_rfl) ?_
  refine wq_loadBx 6 Tryz.hT rfl rfl rfl rfl rfl rfl rfl rfl ?_
  iterate 3 refine wq_pure Tryz.hT rfl rfl rfl ?_
  refine wq_upd 85 (.int .i64 (k' : Nat)) rfl (congrArg (Value.int .i64) (show w64 ((x.n : Nat) - (k : Nat)) = _ by rw [w64_id (by omega) (by omega)]; omega)) ?_
  refine wq_call1 rfl rfl rfl rfl rfl rfl (by kernel_rfl) (fun W1 hp => (bnum_gives (k' : Nat) (by omega) W1 (ht.hp hp)).cast (by rw [← hw])) ?_
  refine wq_call1 rfl rfl rfl rfl rfl rfl (by kernel_rfl) (fun W1 hp => bMoment_gives x.of.mir hC' w pw mw (vAdr V1.f) (vAdr V1.s) (vCap V1.f) (vCap V1.s) W1 (V1.m 4 5 rfl rfl hp hv ht)) ?_
  iterate 5 refine wq_pure Tryz.hT rfl rfl rfl ?_
  refine wq_nil ?_
  refine wl_nil ?_
  refine zE ?_
  refine zA ?_
  refine zB ?_
  iterate 10 refine wl_pure Tryz.hT rfl rfl rfl ?_
  refine wl_upd 99 (.bool true) rfl (congrArg Value.bool ((strEqB _ _).trans (decide_eq_true (by rw [mir_right hL])))) ?_
  iterate 5 refine wl_pure Tryz.hT rfl rfl rfl ?_
  refine wl_upd 104 (.bool true) rfl (congrArg Value.bool ((strEqB _ _).trans (decide_eq_true (by rw [mir_left hL])))) ?_
  iterate 5 refine wl_pure Tryz.hT rfl rfl rfl ?_
  refine wl_upd 109 (.bool true) rfl (congrArg Value.bool ((strEqB _ _).trans (decide_eq_true (by rw [ew, mir_moment hL])))) ?_
  iterate 2 refine wl_pure Tryz.hT rfl rfl rfl ?_
  refine wl_call1 rfl rfl rfl rfl rfl rfl (by kernel_rfl) (fun W1 hp => awakeB_gives W1 (hv.hp hp) (ht.hp hp)) ?_
  iterate 2 refine wl_pure Tryz.hT rfl rfl rfl ?_
  refine wl_nil ?_
  refine zE ?_
  refine zO ?_
  exact ne_ret1 Tryz.hT rfl (.tmp rfl) () rfl trivial fun W _ => NewBx.nil _ _
end Go.Proofs.YtddadjbflgdomaaGreatDoor
