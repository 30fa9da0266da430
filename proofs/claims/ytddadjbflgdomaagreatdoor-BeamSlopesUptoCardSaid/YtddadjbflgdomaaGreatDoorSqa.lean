/-
  Lemmas that the theorem beamSlopes_upto_card needs (part 1 of 1).
-/
import Derived.Test.YtddadjbflgdomaaGreatDoorBqe
namespace Go.Proofs.YtddadjbflgdomaaGreatDoor
theorem sumW_app (a b : List (Rat × Rat)) : sumW (a ++ b) = sumW a + sumW b := by
  induction a with
  | nil => show sumW b = 0 + sumW b; grind
  | cons p a ih => show p.2 + sumW (a ++ b) = p.2 + sumW a + sumW b; rw [ih]; grind
theorem slope_fs (l : List (Rat × Rat)) {x y : Rat} (hxy : x ≤ y) (h : ∀ f ∈ l, ¬ (x < f.1 ∧ f.1 ≤ y)) : l.filter (fun f => decide (f.1 ≤ x)) = l.filter (fun f => decide (f.1 ≤ y)) := by
  refine List.filter_congr fun f hf => ?_
  rw [decide_eq_decide]
  constructor
  · intro h1; exact Rat.le_trans h1 hxy
  · intro h1; exact Rat.not_lt.1 fun h2 => h f hf ⟨h2, h1⟩
theorem slope_ss (l : List (Rat × Rat × Rat)) {x y : Rat} (hxy : x ≤ y) (h : ∀ s ∈ l, s.1 < s.2.1 ∧ (s.2.1 ≤ x ∨ y ≤ s.1 ∨ (s.1 ≤ x ∧ y ≤ s.2.1))) :
    2 * ((y * sumW (l.filterMap (sprd y)) - sumM (l.filterMap (sprd y))) - (x * sumW (l.filterMap (sprd x)) - sumM (l.filterMap (sprd x)))) = (sumW (l.filterMap (sprd x)) + sumW (l.filterMap (sprd y))) * (y - x) := by
  induction l with
  | nil => show 2 * ((y * 0 - 0) - (x * 0 - 0)) = (0 + 0) * (y - x); grind
  | cons s l ih =>
    have i1 := ih fun t ht => h t (List.mem_cons_of_mem _ ht)
    obtain ⟨h0, h1⟩ := h s (List.mem_cons_self ..)
    have key : ∀ (z : Rat) (o : Option (Rat × Rat)), sprd z s = o → sumW ((s :: l).filterMap (sprd z)) = (match o with | none => 0 | some p => p.2) + sumW (l.filterMap (sprd z)) ∧ sumM ((s :: l).filterMap (sprd z)) = (match o with | none => 0 | some p => p.2 * p.1) + sumM (l.filterMap (sprd z)) := by
      intro z o ho
      rw [List.filterMap_cons, ho]
      cases o with
      | none => constructor <;> simp only <;> grind
      | some p => exact ⟨rfl, rfl⟩
    obtain ⟨kx1, kx2⟩ := key x _ rfl
    obtain ⟨ky1, ky2⟩ := key y _ rfl
    rw [kx1, kx2, ky1, ky2]
    generalize sumW (l.filterMap (sprd x)) = A at *
    generalize sumM (l.filterMap (sprd x)) = B at *
    generalize sumW (l.filterMap (sprd y)) = C at *
    generalize sumM (l.filterMap (sprd y)) = E at *
    clear kx1 kx2 ky1 ky2 key
    rcases h1 with h1 | h1 | ⟨h1, h2⟩
    · have ex : sprd x s = some ((s.1 + s.2.1) / 2, s.2.2 * (s.2.1 - s.1)) := by unfold sprd; rw [if_neg (Rat.not_lt.2 h1), if_pos h0]
      have ey : sprd y s = some ((s.1 + s.2.1) / 2, s.2.2 * (s.2.1 - s.1)) := by unfold sprd; rw [if_neg (Rat.not_lt.2 (Rat.le_trans h1 hxy)), if_pos h0]
      rw [ex, ey]; simp only; grind
    · have ex : sprd x s = none := by unfold sprd; rw [if_neg]; split <;> grind
      have ey : sprd y s = none := by unfold sprd; rw [if_neg]; split <;> grind
      rw [ex, ey]; simp only; grind
    · have cut : ∀ z, s.1 ≤ z → z ≤ s.2.1 → (sprd z s = none ∧ z = s.1) ∨ sprd z s = some ((s.1 + z) / 2, s.2.2 * (z - s.1)) := by
        intro z c1 c2
        have e : (if z < s.2.1 then z else s.2.1) = z := by split; rfl; grind
        unfold sprd
        rw [e]
        by_cases c : s.1 < z
        · right; rw [if_pos c]
        · left; rw [if_neg c]; exact ⟨rfl, by grind⟩
      rcases cut x h1 (Rat.le_trans hxy h2) with ⟨ex, ex2⟩ | ex <;> rcases cut y (Rat.le_trans h1 hxy) h2 with ⟨ey, ey2⟩ | ey <;> rw [ex, ey] <;> simp only <;> grind
theorem slope_law {b : BmP} (hl : ∀ s ∈ b.ss, s.1 < s.2.1) {x y : Rat} (hxy : x ≤ y) (h1 : ¬ (x < b.l ∧ b.l ≤ y)) (h2 : ¬ (x < b.r ∧ b.r ≤ y)) (h1' : x ≠ b.l) (h2' : x ≠ b.r) (hf : ∀ f ∈ b.fs, ¬ (x < f.1 ∧ f.1 ≤ y)) (hs : ∀ s ∈ b.ss, s.2.1 ≤ x ∨ y ≤ s.1 ∨ (s.1 ≤ x ∧ y ≤ s.2.1)) :
    b.moment y - b.moment x = (b.shear x + b.shear y) * ((y - x) / 2) := by
  have e1 := slope_fs b.fs hxy hf
  have e2 := slope_ss b.ss hxy fun s h => ⟨hl s h, hs s h⟩
  unfold BmP.moment BmP.shear BmP.pts
  simp only [sumW_app, sumM_app]
  rw [e1]
  have cl : (b.l < x ∧ b.l ≤ x ∧ b.l < y ∧ b.l ≤ y) ∨ (¬ b.l < x ∧ ¬ b.l ≤ x ∧ ¬ b.l < y ∧ ¬ b.l ≤ y) := by
    by_cases c : b.l ≤ x
    · left; grind
    · right; grind
  have cr : (b.r < x ∧ b.r ≤ x ∧ b.r < y ∧ b.r ≤ y) ∨ (¬ b.r < x ∧ ¬ b.r ≤ x ∧ ¬ b.r < y ∧ ¬ b.r ≤ y) := by
    by_cases c : b.r ≤ x
    · left; grind
    · right; grind
  rcases cl with ⟨l1, l2, l3, l4⟩ | ⟨l1, l2, l3, l4⟩ <;> rcases cr with ⟨r1, r2, r3, r4⟩ | ⟨r1, r2, r3, r4⟩ <;> simp only [l1, l2, l3, l4, r1, r2, r3, r4, if_true, if_false] <;> grind
end Go.Proofs.YtddadjbflgdomaaGreatDoor
namespace Go.Proofs.YtddadjbflgdomaaGreatDoor
set_option maxRecDepth 10000
theorem InD.ofN (z : Int) {D M : Nat} (hD : 0 < D) (h : z.natAbs ≤ M) : InD D M (nrm z (D : Int)) := ⟨z, by rw [nrm_div z (by omega), Rat.divInt_eq_div]; rfl, h⟩
end Go.Proofs.YtddadjbflgdomaaGreatDoor
namespace Go.Proofs.YtddadjbflgdomaaGreatDoor
open Go Go.RowKit Go.Am Go.Lib
set_option maxRecDepth 10000
-- BOXES 4
theorem sxt_eq (c : Int) : nrm c 16 = (c : Rat) / 16 := by rw [nrm_div c (by decide), Rat.divInt_eq_div]; rfl
theorem sxt_lt_half {z c : Int} : nrm c 16 < nrm z 2 ↔ c < 8 * z := by
  rw [sxt_eq, half_eq]
  have h : ((c : Int) : Rat) < ((8 * z : Int) : Rat) ↔ c < 8 * z := Rat.intCast_lt_intCast
  rw [← h, Rat.intCast_mul]
  have e : ((8 : Int) : Rat) = 8 := rfl
  rw [e]
  constructor <;> intro h <;> grind
theorem half_le_sxt {z c : Int} : nrm z 2 ≤ nrm c 16 ↔ 8 * z ≤ c := by
  rw [sxt_eq, half_eq]
  have h : ((8 * z : Int) : Rat) ≤ ((c : Int) : Rat) ↔ 8 * z ≤ c := Rat.intCast_le_intCast
  rw [← h, Rat.intCast_mul]
  have e : ((8 : Int) : Rat) = 8 := rfl
  rw [e]
  constructor <;> intro h <;> grind
theorem sxt_le_half {z c : Int} : nrm c 16 ≤ nrm z 2 ↔ c ≤ 8 * z := by
  rw [sxt_eq, half_eq]
  have h : ((c : Int) : Rat) ≤ ((8 * z : Int) : Rat) ↔ c ≤ 8 * z := Rat.intCast_le_intCast
  rw [← h, Rat.intCast_mul]
  have e : ((8 : Int) : Rat) = 8 := rfl
  rw [e]
  constructor <;> intro h <;> grind
theorem sxt_le {a c : Int} : nrm a 16 ≤ nrm c 16 ↔ a ≤ c := by
  rw [sxt_eq, sxt_eq]
  have h : ((a : Int) : Rat) ≤ ((c : Int) : Rat) ↔ a ≤ c := Rat.intCast_le_intCast
  rw [← h]
  constructor <;> intro h <;> grind
/-- Between two halves. -/
theorem slope_small {x : SmB} {k i j : Nat} (hi : 1 ≤ i) (hij : i ≤ j) (hj : j ≤ 7) :
    x.of.moment (nrm (8 * k + j : Nat) 16) - x.of.moment (nrm (8 * k + i : Nat) 16) = (x.of.shear (nrm (8 * k + i : Nat) 16) + x.of.shear (nrm (8 * k + j : Nat) 16)) * nrm (j - i : Nat) 32 := by
  have hL := x.lies
  have out : ∀ z : Int, ¬ (nrm (8 * k + i : Nat) 16 < nrm z 2 ∧ nrm z 2 ≤ nrm (8 * k + j : Nat) 16) := fun z h => by
    have h1 := sxt_lt_half.1 h.1
    have h2 := half_le_sxt.1 h.2
    omega
  have ne : ∀ z : Int, nrm (8 * k + i : Nat) 16 ≠ nrm z 2 := fun z e => by
    have h1 : 8 * z ≤ ((8 * k + i : Nat) : Int) := half_le_sxt.1 (by rw [e]; exact Rat.le_refl)
    have h2 : ((8 * k + i : Nat) : Int) ≤ 8 * z := sxt_le_half.1 (by rw [e]; exact Rat.le_refl)
    omega
  have h := slope_law (b := x.of) (x := nrm (8 * k + i : Nat) 16) (y := nrm (8 * k + j : Nat) 16) hL.s1 (sxt_le.2 (by omega)) (out _) (out _) (ne _) (ne _) (fun f hf => by
    obtain ⟨g, _, rfl⟩ := List.mem_map.1 hf
    exact out _) (fun s hs => by
    obtain ⟨g, _, rfl⟩ := List.mem_map.1 hs
    have hlt := x.to_rng g
    by_cases c1 : x.to g ≤ k
    · exact .inl (half_le_sxt.2 (by omega))
    · by_cases c2 : x.fr g ≤ k
      · exact .inr (.inr ⟨half_le_sxt.2 (by omega), Rat.le_of_lt (sxt_lt_half.2 (by omega))⟩)
      · exact .inr (.inl (Rat.le_of_lt (sxt_lt_half.2 (by omega)))))
  rw [h]
  congr 1
  have e : nrm (j - i : Nat) 32 = (((j - i : Nat) : Int) : Rat) / 32 := by rw [nrm_div _ (by decide), Rat.divInt_eq_div]; rfl
  rw [e, sxt_eq, sxt_eq]
  have e2 : (((j - i : Nat) : Int) : Rat) = ((8 * k + j : Nat) : Int) - ((8 * k + i : Nat) : Int) := by
    rw [← Rat.intCast_sub]; congr 1; omega
  rw [e2]
  grind
set_option maxHeartbeats 32000000 in
theorem slopes_gives (x : SmB) (a c d : Nat) (ha : a < 256) (hc : c < 256) (hd : d < 256) (p q : Option Addr) (m n : Nat) (W : World) (hM : SmbM W x p q m n) (hv : MaxP W) (ht : TabP W) :
    CallsR Tryz.prog 6 #[smbV x p q m n, .int .u8 (a : Nat), .int .u8 (c : Nat), .int .u8 (d : Nat)] W (fun _ : Unit => .bool true) (fun _ => True) (fun _ => []) := by
  have hg := SmB.good hM.ok
  have hC := hg.chk
  have hn := x.n_rng
  have hL := hg.lies
  have ba := hM.ba
  obtain ⟨k, hk⟩ : ∃ k, k = a % x.n := ⟨_, rfl⟩
  have hkn : k < x.n := by rw [hk]; exact Nat.mod_lt _ (by omega)
  obtain ⟨i0, hi0⟩ : ∃ i, i = c % 7 + 1 := ⟨_, rfl⟩
  obtain ⟨j0, hj0⟩ : ∃ i, i = d % 7 + 1 := ⟨_, rfl⟩
  obtain ⟨i, hi⟩ : ∃ i, i = min i0 j0 := ⟨_, rfl⟩
  obtain ⟨j, hj⟩ : ∃ i, i = max i0 j0 := ⟨_, rfl⟩
  have hi1 : 1 ≤ i := by omega
  have hij : i ≤ j := by omega
  have hj7 : j ≤ 7 := by omega
  have hlaw := slope_small (x := x) (k := k) hi1 hij hj7
  obtain ⟨u, hu⟩ : ∃ u, u = nrm (8 * k + i : Nat) 16 := ⟨_, rfl⟩
  obtain ⟨w, hw⟩ : ∃ u, u = nrm (8 * k + j : Nat) 16 := ⟨_, rfl⟩
  obtain ⟨g, hgp⟩ : ∃ u, u = nrm (j - i : Nat) 32 := ⟨_, rfl⟩
  have iu : InD (2 * 8) (100 * 8) u := hu ▸ InD.ofN (D := 2 * 8) (M := 100 * 8) _ (by decide) (by omega)
  have iw : InD (2 * 8) (100 * 8) w := hw ▸ InD.ofN (D := 2 * 8) (M := 100 * 8) _ (by decide) (by omega)
  have zg : szQ g 5 := by
    have h : InD 32 7 g := hgp ▸ InD.ofN (D := 32) (M := 7) _ (by decide) (by omega)
    exact h.sz (by decide) (by decide) (by decide)
  have le0 : ∀ c : Nat, c ≤ 8 * x.n → (0 : Rat) ≤ nrm (c : Nat) 16 ∧ nrm (c : Nat) 16 ≤ x.of.len := fun c hc => by
    refine ⟨?_, ?_⟩
    · rw [← half_zero, half_le_sxt]; omega
    · show nrm (c : Nat) 16 ≤ nrm (x.n : Int) 2
      refine Rat.not_lt.1 fun h => ?_
      have h1 := half_le_sxt.1 (Rat.le_of_lt h)
      have e : (c : Int) = 8 * x.n := by omega
      rw [sxt_eq, half_eq, e, Rat.intCast_mul] at h
      have e8 : ((8 : Int) : Rat) = 8 := rfl
      rw [e8] at h
      grind
  have pu : PlQ x.of u := by
    obtain ⟨h1, h2⟩ := le0 (8 * k + i) (by omega)
    exact BmG.pl 8 (by decide) (by decide) iu (hu ▸ h1) (hu ▸ h2)
  have pw : PlQ x.of w := by
    obtain ⟨h1, h2⟩ := le0 (8 * k + j) (by omega)
    exact BmG.pl 8 (by decide) (by decide) iw (hw ▸ h1) (hw ▸ h2)
  obtain ⟨mu, zmu⟩ := hg.mo 8 (by decide) (by decide) iu
  obtain ⟨mw, zmw⟩ := hg.mo 8 (by decide) (by decide) iw
  obtain ⟨su, zsu⟩ := hg.sh 8 (by decide) (by decide) iu
  obtain ⟨sw, zsw⟩ := hg.sh 8 (by decide) (by decide) iw
  rw [← hu, ← hw, ← hgp] at hlaw
  refine calls_enter (args := [smbV x p q m n, .int .u8 (a : Nat), .int .u8 (c : Nat), .int .u8 (d : Nat)]) Tryz.func6 rfl rfl rfl ?_
  refine zA ?_
  refine zB ?_
  (refine wl_box rfl rfl rfl rfl ?_; intro)
  refine wl_pure Tryz.hT rfl rfl rfl ?_
  refine wl_nil ?_
  rename_i b4
  refine zE ?_
  refine zA ?_
  refine zB ?_
  refine wl_loadBx 0 Tryz.hT rfl rfl rfl rfl rfl rfl rfl rfl ?_
  refine wl_call (X := BmV x.of) rfl rfl rfl rfl rfl rfl (by kernel_rfl) (fun W hp => lawof_gives x p q m n W (hM.hp hp) (hv.hp hp) (ht.hp hp)) ?_
  intro V _
  iterate 3 refine wl_pure Tryz.hT rfl rfl rfl ?_
  (refine wl_allocZ Tryz.hZ rfl rfl rfl rfl ?_; intro)
  refine wl_storeBx 3 Tryz.hT rfl rfl rfl rfl rfl rfl rfl rfl rfl rfl rfl ?_
  refine wl_pure Tryz.hT rfl rfl rfl ?_
  refine wl_nil ?_
  rename_i b9
  refine zE ?_
  refine zA ?_
  refine zB ?_
  refine wl_pure Tryz.hT rfl rfl rfl ?_
  refine wl_loadBx 0 Tryz.hT rfl rfl rfl rfl rfl rfl rfl rfl ?_
  refine wl_cvA Tryz.underlying5 Tryz.underlying3 rfl rfl rfl rfl ?_
  refine wl_upd 38 (.int .i64 (x.a : Nat)) rfl (congrArg (Value.int .i64) (w64_nat (by omega))) ?_
  refine wl_rem rfl rfl rfl rfl rfl (by decide) ?_
  refine wl_upd 39 (.int .i64 ((x.a % 24 : Nat) : Int)) rfl (congrArg (Value.int .i64) (by rw [Int.tmod_eq_emod_of_nonneg (by omega)]; omega)) ?_
  refine wl_pure Tryz.hT rfl rfl rfl ?_
  refine wl_upd 40 (.int .i64 (x.n : Nat)) rfl (congrArg (Value.int .i64) (by show w64 (((x.a % 24 : Nat) : Int) + 2) = _; rw [w64_id (by omega) (by omega)]; unfold SmB.n; omega)) ?_
  refine wl_pure Tryz.hT rfl rfl rfl ?_
  refine wl_nil ?_
  refine zE ?_
  refine zA ?_
  refine zB ?_
  refine wl_pure Tryz.hT rfl rfl rfl ?_
  refine wl_cvA Tryz.underlying5 Tryz.underlying3 rfl rfl rfl rfl ?_
  refine wl_upd 42 (.int .i64 (a : Nat)) rfl (congrArg (Value.int .i64) (w64_nat (by omega))) ?_
  refine wl_pure Tryz.hT rfl rfl rfl ?_
  refine wl_rem rfl rfl rfl rfl rfl (by omega) ?_
  refine wl_upd 44 (.int .i64 (k : Nat)) rfl (congrArg (Value.int .i64) (by rw [Int.tmod_eq_emod_of_nonneg (by omega), hk]; exact (Int.natCast_emod _ _).symm)) ?_
  refine wl_pure Tryz.hT rfl rfl rfl ?_
  refine wl_nil ?_
  refine zE ?_
  refine zA ?_
  refine zB ?_
  refine wl_pure Tryz.hT rfl rfl rfl ?_
  refine wl_cvA Tryz.underlying5 Tryz.underlying3 rfl rfl rfl rfl ?_
  refine wl_upd 46 (.int .i64 (c : Nat)) rfl (congrArg (Value.int .i64) (w64_nat (by omega))) ?_
  refine wl_rem rfl rfl rfl rfl rfl (by decide) ?_
  refine wl_upd 47 (.int .i64 ((c % 7 : Nat) : Int)) rfl (congrArg (Value.int .i64) (by rw [Int.tmod_eq_emod_of_nonneg (by omega)]; omega)) ?_
  refine wl_pure Tryz.hT rfl rfl rfl ?_
  refine wl_upd 48 (.int .i64 (i0 : Nat)) rfl (congrArg (Value.int .i64) (by show w64 (((c % 7 : Nat) : Int) + 1) = _; rw [w64_id (by omega) (by omega)]; omega)) ?_
  refine wl_pure Tryz.hT rfl rfl rfl ?_
  refine wl_cvA Tryz.underlying5 Tryz.underlying3 rfl rfl rfl rfl ?_
  refine wl_upd 50 (.int .i64 (d : Nat)) rfl (congrArg (Value.int .i64) (w64_nat (by omega))) ?_
  refine wl_rem rfl rfl rfl rfl rfl (by decide) ?_
  refine wl_upd 51 (.int .i64 ((d % 7 : Nat) : Int)) rfl (congrArg (Value.int .i64) (by rw [Int.tmod_eq_emod_of_nonneg (by omega)]; omega)) ?_
  refine wl_pure Tryz.hT rfl rfl rfl ?_
  refine wl_upd 52 (.int .i64 (j0 : Nat)) rfl (congrArg (Value.int .i64) (by show w64 (((d % 7 : Nat) : Int) + 1) = _; rw [w64_id (by omega) (by omega)]; omega)) ?_
  iterate 2 refine wl_pure Tryz.hT rfl rfl rfl ?_
  refine wl_nil ?_
  refine zE ?_
  iterate 2 refine zA ?_
  refine zB ?_
  iterate 3 refine wl_pure Tryz.hT rfl rfl rfl ?_
  refine wl_upd 55 (.bool (decide (j0 < i0))) rfl (congrArg Value.bool (decide_eq_decide.2 (by omega))) ?_
  refine wl_nil ?_
  refine ne_then ?_
  try refine wc_seq ?_
  refine wc_cutS (X := Unit) (fun _ => [(9, selfP b9), (10, .bool true), (12, .int .i64 (k : Nat)), (13, .int .i64 (i : Nat)), (14, .int .i64 (j : Nat))]) (fun _ => [smbB b4 x p q m n, V.bf, V.bs, bmB b9 x.of (vAdr V.f) (vCap V.f) (vAdr V.s) (vCap V.s)]) (fun _ => True) ?_ ?_
  · refine wc_cond rfl (fun h => ?_) (fun h => ?_)
    · have hc1 : j0 < i0 := of_decide_eq_true h
      have e1 : i = j0 := by omega
      have e2 : j = i0 := by omega
      refine zB ?_
      iterate 4 refine wl_pure Tryz.hT rfl rfl rfl ?_
      refine wl_nil ?_
      exact ne_cut () trivial ⟨rfl, rfl, rfl, by rw [e1]; rfl, by rw [e2]; rfl, trivial⟩ [] rfl
    · have hc1 : ¬ j0 < i0 := of_decide_eq_false h
      have e1 : i = i0 := by omega
      have e2 : j = j0 := by omega
      refine zI ?_
      exact ne_cut () trivial ⟨rfl, rfl, rfl, by rw [e1]; rfl, by rw [e2]; rfl, trivial⟩ [] rfl
  intro _ _
  refine zA ?_
  refine zB ?_
  iterate 2 refine wl_pure Tryz.hT rfl rfl rfl ?_
  refine wl_upd 60 (.int .i64 ((8 * k : Nat) : Int)) rfl (congrArg (Value.int .i64) (show w64 (8 * (k : Nat)) = _ by rw [w64_id (by omega) (by omega)]; omega)) ?_
  iterate 2 refine wl_pure Tryz.hT rfl rfl rfl ?_
  refine wl_upd 62 (.int .i64 ((8 * k + i : Nat) : Int)) rfl (congrArg (Value.int .i64) (show w64 ((8 * k : Nat) + (i : Nat)) = _ by rw [w64_id (by omega) (by omega)]; omega)) ?_
  refine wl_call1 rfl rfl rfl rfl rfl rfl (by kernel_rfl) (fun W1 hp => (rof_gives ((8 * k + i : Nat) : Int) 16 (by omega) (by decide) W1 (ht.hp hp)).cast (by rw [ofR, if_neg (by decide), ← hu])) ?_
  iterate 5 refine wl_pure Tryz.hT rfl rfl rfl ?_
  refine wl_nil ?_
  refine zE ?_
  refine zA ?_
  refine zB ?_
  iterate 2 refine wl_pure Tryz.hT rfl rfl rfl ?_
  refine wl_upd 68 (.int .i64 ((8 * k : Nat) : Int)) rfl (congrArg (Value.int .i64) (show w64 (8 * (k : Nat)) = _ by rw [w64_id (by omega) (by omega)]; omega)) ?_
  iterate 2 refine wl_pure Tryz.hT rfl rfl rfl ?_
  refine wl_upd 70 (.int .i64 ((8 * k + j : Nat) : Int)) rfl (congrArg (Value.int .i64) (show w64 ((8 * k : Nat) + (j : Nat)) = _ by rw [w64_id (by omega) (by omega)]; omega)) ?_
  refine wl_call1 rfl rfl rfl rfl rfl rfl (by kernel_rfl) (fun W1 hp => (rof_gives ((8 * k + j : Nat) : Int) 16 (by omega) (by decide) W1 (ht.hp hp)).cast (by rw [ofR, if_neg (by decide), ← hw])) ?_
  iterate 5 refine wl_pure Tryz.hT rfl rfl rfl ?_
  refine wl_nil ?_
  refine zE ?_
  refine zA ?_
  refine zB ?_
  refine wl_loadBx 3 Tryz.hT rfl rfl rfl rfl rfl rfl rfl rfl ?_
  refine wl_pure Tryz.hT rfl rfl rfl ?_
  refine wl_call1 rfl rfl rfl rfl rfl rfl (by kernel_rfl) (fun W1 hp => bShear_gives x.of hC u pu su (vAdr V.f) (vAdr V.s) (vCap V.f) (vCap V.s) W1 (V.m 1 2 rfl rfl hp hv ht)) ?_
  iterate 5 refine wl_pure Tryz.hT rfl rfl rfl ?_
  refine wl_nil ?_
  refine zE ?_
  refine zA ?_
  refine zB ?_
  refine wl_loadBx 3 Tryz.hT rfl rfl rfl rfl rfl rfl rfl rfl ?_
  refine wl_pure Tryz.hT rfl rfl rfl ?_
  refine wl_call1 rfl rfl rfl rfl rfl rfl (by kernel_rfl) (fun W1 hp => bShear_gives x.of hC w pw sw (vAdr V.f) (vAdr V.s) (vCap V.f) (vCap V.s) W1 (V.m 1 2 rfl rfl hp hv ht)) ?_
  iterate 5 refine wl_pure Tryz.hT rfl rfl rfl ?_
  refine wl_nil ?_
  refine zE ?_
  iterate 2 refine zA ?_
  refine zB ?_
  iterate 10 refine wl_pure Tryz.hT rfl rfl rfl ?_
  refine wl_nil ?_
  refine zE ?_
  refine zS rfl ?_
  refine zI ?_
  refine zE ?_
  refine zA ?_
  refine zB ?_
  refine wl_loadBx 3 Tryz.hT rfl rfl rfl rfl rfl rfl rfl rfl ?_
  refine wl_pure Tryz.hT rfl rfl rfl ?_
  refine wl_call1 rfl rfl rfl rfl rfl rfl (by kernel_rfl) (fun W1 hp => bMoment_gives x.of hC u pu mu (vAdr V.f) (vAdr V.s) (vCap V.f) (vCap V.s) W1 (V.m 1 2 rfl rfl hp hv ht)) ?_
  iterate 5 refine wl_pure Tryz.hT rfl rfl rfl ?_
  refine wl_nil ?_
  refine zE ?_
  refine zA ?_
  refine zB ?_
  refine wl_loadBx 3 Tryz.hT rfl rfl rfl rfl rfl rfl rfl rfl ?_
  refine wl_pure Tryz.hT rfl rfl rfl ?_
  refine wl_call1 rfl rfl rfl rfl rfl rfl (by kernel_rfl) (fun W1 hp => bMoment_gives x.of hC w pw mw (vAdr V.f) (vAdr V.s) (vCap V.f) (vCap V.s) W1 (V.m 1 2 rfl rfl hp hv ht)) ?_
  iterate 5 refine wl_pure Tryz.hT rfl rfl rfl ?_
  refine wl_nil ?_
  refine zE ?_
  refine zA ?_
  refine zB ?_
  iterate 2 refine wl_pure Tryz.hT rfl rfl rfl ?_
  refine wl_call1 rfl rfl rfl rfl rfl rfl (by kernel_rfl) (fun W1 hp => rsub_gives (x.of.moment w) (x.of.moment u) (sz2 zmw zmu (by decide)) W1 (hv.hp hp) (ht.hp hp)) ?_
  iterate 5 refine wl_pure Tryz.hT rfl rfl rfl ?_
  refine wl_nil ?_
  refine zE ?_
  refine zA ?_
  refine zB ?_
  iterate 2 refine wl_pure Tryz.hT rfl rfl rfl ?_
  refine wl_call1 rfl rfl rfl rfl rfl rfl (by kernel_rfl) (fun W1 hp => radd_gives (x.of.shear u) (x.of.shear w) (sz2 zsu zsw (by decide)) W1 (hv.hp hp) (ht.hp hp)) ?_
  iterate 5 refine wl_pure Tryz.hT rfl rfl rfl ?_
  refine wl_nil ?_
  refine zE ?_
  refine zA ?_
  refine zB ?_
  iterate 3 refine wl_pure Tryz.hT rfl rfl rfl ?_
  refine wl_upd 123 (.int .i64 ((j - i : Nat) : Int)) rfl (congrArg (Value.int .i64) (show w64 ((j : Nat) - (i : Nat)) = _ by rw [w64_id (by omega) (by omega)]; omega)) ?_
  refine wl_call1 rfl rfl rfl rfl rfl rfl (by kernel_rfl) (fun W1 hp => (rof_gives ((j - i : Nat) : Int) 32 (by omega) (by decide) W1 (ht.hp hp)).cast (by rw [ofR, if_neg (by decide), ← hgp])) ?_
  iterate 5 refine wl_pure Tryz.hT rfl rfl rfl ?_
  refine wl_nil ?_
  refine zE ?_
  refine zA ?_
  refine zB ?_
  iterate 2 refine wl_pure Tryz.hT rfl rfl rfl ?_
  refine wl_call1 rfl rfl rfl rfl rfl rfl (by kernel_rfl) (fun W1 hp => rmul_gives (x.of.shear u + x.of.shear w) g (sz2 (zsu.add zsw) zg (by decide)) W1 (hv.hp hp) (ht.hp hp)) ?_
  iterate 5 refine wl_pure Tryz.hT rfl rfl rfl ?_
  refine wl_nil ?_
  refine zE ?_
  refine zA ?_
  refine zB ?_
  iterate 12 refine wl_pure Tryz.hT rfl rfl rfl ?_
  refine wl_upd 144 (.bool true) rfl (congrArg Value.bool ((strEqB _ _).trans (decide_eq_true (by rw [hlaw])))) ?_
  iterate 2 refine wl_pure Tryz.hT rfl rfl rfl ?_
  refine wl_call1 rfl rfl rfl rfl rfl rfl (by kernel_rfl) (fun W1 hp => awakeB_gives W1 (hv.hp hp) (ht.hp hp)) ?_
  iterate 2 refine wl_pure Tryz.hT rfl rfl rfl ?_
  refine wl_nil ?_
  refine zE ?_
  refine zO ?_
  exact ne_ret1 Tryz.hT rfl (.tmp rfl) () rfl trivial fun W _ => NewBx.nil _ _
end Go.Proofs.YtddadjbflgdomaaGreatDoor
