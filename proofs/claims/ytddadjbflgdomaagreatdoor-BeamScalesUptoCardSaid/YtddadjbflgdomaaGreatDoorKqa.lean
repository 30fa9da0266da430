/-
  Lemmas that the theorem beamScales_upto_card needs (part 1 of 1).
-/
import Derived.Test.YtddadjbflgdomaaGreatDoorBqe
namespace Go.Proofs.YtddadjbflgdomaaGreatDoor
def BmP.times (b : BmP) (k : Rat) : BmP := ⟨b.len, b.l, b.r, b.fs.map fun f => (f.1, f.2 * k), b.ss.map fun s => (s.1, s.2.1, s.2.2 * k)⟩
theorem times_pts (b : BmP) (k x : Rat) : (b.times k).pts x = (b.pts x).map fun p => (p.1, p.2 * k) := by
  unfold BmP.pts BmP.times
  simp only [List.map_append]
  congr 1
  · rw [List.filter_map]; rfl
  · rw [List.filterMap_map, List.map_filterMap]
    congr 1
    funext s
    show sprd x (s.1, s.2.1, s.2.2 * k) = (sprd x s).map _
    unfold sprd
    simp only
    generalize (if x < s.2.1 then x else s.2.1) = t
    by_cases c : s.1 < t
    · rw [if_pos c, if_pos c]
      show some _ = some _
      congr 2
      grind
    · rw [if_neg c, if_neg c]; rfl
theorem times_sW (l : List (Rat × Rat)) (k : Rat) : sumW (l.map fun p => (p.1, p.2 * k)) = sumW l * k := by
  induction l with
  | nil => show (0 : Rat) = 0 * k; grind
  | cons p l ih => show p.2 * k + sumW _ = (p.2 + sumW l) * k; rw [ih]; grind
theorem times_sM (l : List (Rat × Rat)) (k : Rat) : sumM (l.map fun p => (p.1, p.2 * k)) = sumM l * k := by
  induction l with
  | nil => show (0 : Rat) = 0 * k; grind
  | cons p l ih => show p.2 * k * p.1 + sumM _ = (p.2 * p.1 + sumM l) * k; rw [ih]; grind
theorem times_moment (b : BmP) (k x : Rat) : (b.times k).moment x = b.moment x * k := by
  have hW : ∀ y, sumW ((b.times k).pts y) = sumW (b.pts y) * k := fun y => by rw [times_pts, times_sW]
  have hM : ∀ y, sumM ((b.times k).pts y) = sumM (b.pts y) * k := fun y => by rw [times_pts, times_sM]
  have hr : (b.times k).right = b.right * k := by
    show (sumM ((b.times k).pts b.len) - b.l * sumW ((b.times k).pts b.len)) / (b.r - b.l) = (sumM (b.pts b.len) - b.l * sumW (b.pts b.len)) / (b.r - b.l) * k
    rw [hW, hM]
    grind
  have hl : (b.times k).left = b.left * k := by
    show sumW ((b.times k).pts b.len) - (b.times k).right = (sumW (b.pts b.len) - b.right) * k
    rw [hW, hr]; grind
  show (if b.l < x then (b.times k).left * (x - b.l) else 0) + (if b.r < x then (b.times k).right * (x - b.r) else 0) - (x * sumW ((b.times k).pts x) - sumM ((b.times k).pts x)) = _
  unfold BmP.moment
  rw [hW, hM, hr, hl]
  split <;> split <;> grind
end Go.Proofs.YtddadjbflgdomaaGreatDoor
namespace Go.Proofs.YtddadjbflgdomaaGreatDoor
set_option maxRecDepth 10000
theorem InD.ofN (z : Int) {D M : Nat} (hD : 0 < D) (h : z.natAbs ≤ M) : InD D M (nrm z (D : Int)) := ⟨z, by rw [nrm_div z (by omega), Rat.divInt_eq_div]; rfl, h⟩
end Go.Proofs.YtddadjbflgdomaaGreatDoor
namespace Go.Proofs.YtddadjbflgdomaaGreatDoor
open Go Go.RowKit Go.Am Go.Lib
theorem half_place {x : SmB} {k : Nat} (hk : k ≤ x.n) : (0 : Rat) ≤ nrm (k : Nat) 2 ∧ nrm (k : Nat) 2 ≤ x.of.len := by
  refine ⟨?_, ?_⟩
  · rw [← half_zero, half_le]; omega
  · show nrm (k : Nat) 2 ≤ nrm (x.n : Int) 2
    rw [half_le]; omega
theorem half_in {x : SmB} {k : Nat} (hk : k ≤ x.n) : InD (2 * 1) (100 * 1) (nrm (k : Nat) 2) := by
  have := x.n_rng
  exact InD.ofN (D := 2) (M := 100) _ (by decide) (by omega)
/-- A load in a row of the frame's own. -/
theorem BmV.frow {b : BmP} (V : BmV b) {i : Nat} (hi : i < b.fs.length) : ∃ g, vAdr V.f = some ⟨g, 0, none⟩ ∧ ∀ {W0 W : World} {bxs : List Bx} (j : Nat), nth bxs j = some V.bf → Hp W0 bxs W → RowAt W g (0 + i * 2) [str (numS b.fs[i].1), str (numS b.fs[i].2)] := by
  obtain ⟨⟨p, cap, junk⟩, U, hf, hs⟩ := V
  cases p with
  | none => have := hf.nil rfl; omega
  | some g =>
    refine ⟨g, rfl, fun j hj hp => ?_⟩
    rcases fos_of hf j hj hp with h | ⟨g', off, e, h⟩
    · rw [h] at hi; exact absurd hi (Nat.not_lt_zero _)
    · cases e; exact h i hi
theorem BmV.srow {b : BmP} (V : BmV b) {i : Nat} (hi : i < b.ss.length) : ∃ g, vAdr V.s = some ⟨g, 0, none⟩ ∧ ∀ {W0 W : World} {bxs : List Bx} (j : Nat), nth bxs j = some V.bs → Hp W0 bxs W → RowAt W g (0 + i * 3) [str (numS b.ss[i].1), str (numS b.ss[i].2.1), str (numS b.ss[i].2.2)] := by
  obtain ⟨U, ⟨p, cap, junk⟩, hf, hs⟩ := V
  cases p with
  | none => have := hs.nil rfl; omega
  | some g =>
    refine ⟨g, rfl, fun j hj hp => ?_⟩
    rcases sps_of hs j hj hp with h | ⟨g', off, e, h⟩
    · rw [h] at hi; exact absurd hi (Nat.not_lt_zero _)
    · cases e; exact h i hi
end Go.Proofs.YtddadjbflgdomaaGreatDoor
namespace Go.Proofs.YtddadjbflgdomaaGreatDoor
set_option maxRecDepth 10000
theorem times_W (b : BmP) (k y : Rat) : sumW ((b.times k).pts y) = sumW (b.pts y) * k := by rw [times_pts, times_sW]
theorem times_M (b : BmP) (k y : Rat) : sumM ((b.times k).pts y) = sumM (b.pts y) * k := by rw [times_pts, times_sM]
theorem times_total (b : BmP) (k : Rat) : (b.times k).total = b.total * k := times_W b k b.len
theorem times_turn (b : BmP) (k : Rat) : (b.times k).turn = b.turn * k := by
  show sumM ((b.times k).pts b.len) - b.l * sumW ((b.times k).pts b.len) = (sumM (b.pts b.len) - b.l * sumW (b.pts b.len)) * k
  rw [times_W, times_M]
  grind
theorem times_right (b : BmP) (k : Rat) : (b.times k).right = b.right * k := by
  show (b.times k).turn / (b.r - b.l) = b.turn / (b.r - b.l) * k
  rw [times_turn]
  grind
theorem times_left (b : BmP) (k : Rat) : (b.times k).left = b.left * k := by
  show (b.times k).total - (b.times k).right = (b.total - b.right) * k
  rw [times_total, times_right]
  grind
theorem times_supM (b : BmP) (k x : Rat) : (b.times k).supM x = b.supM x * k := by
  show (if b.l < x then (b.times k).left * (x - b.l) else 0) + (if b.r < x then (b.times k).right * (x - b.r) else 0) = _
  unfold BmP.supM
  rw [times_left, times_right]
  split <;> split <;> grind
theorem times_acc {t : Rat × Rat → Rat} {k : Rat} (ht : ∀ p : Rat × Rat, t (p.1, p.2 * k) = t p * k) : ∀ (l : List (Rat × Rat)) (s : Rat), accQ t (s * k) (l.map fun p => (p.1, p.2 * k)) = accQ t s l * k
  | [], s => rfl
  | p :: l, s => by
    rw [List.map_cons, accQ_cons, accQ_cons, ht]
    have e : s * k + t p * k = (s + t p) * k := by grind
    rw [e]
    exact times_acc ht l (s + t p)
theorem zero_k (k : Rat) : (0 : Rat) = 0 * k := (Rat.zero_mul k).symm
/-- A beam's loads k times as great, k a small fraction. -/
structure Kf (k : Rat) (d : Nat) : Prop where
  k : InD d 128 k
  d0 : 0 < d
  d6 : d ≤ 6
theorem Kf.sz {k : Rat} {d : Nat} (h : Kf k d) : szQ k 5 := h.k.sz h.d0 (by decide) (Nat.lt_of_le_of_lt h.d6 (by decide))
theorem times_lies {b : BmP} (h : b.Lies) (k : Rat) : (b.times k).Lies := by
  refine ⟨h.len, h.l0, h.lr, h.r1, fun f hm => ?_, fun f hm => ?_, fun s hm => ?_, fun s hm => ?_, fun s hm => ?_⟩
  · obtain ⟨g, hg, rfl⟩ := List.mem_map.1 hm; exact h.f0 g hg
  · obtain ⟨g, hg, rfl⟩ := List.mem_map.1 hm; exact h.f1 g hg
  · obtain ⟨g, hg, rfl⟩ := List.mem_map.1 hm; exact h.s0 g hg
  · obtain ⟨g, hg, rfl⟩ := List.mem_map.1 hm; exact h.s1 g hg
  · obtain ⟨g, hg, rfl⟩ := List.mem_map.1 hm; exact h.s2 g hg
theorem times_bn {k q : Rat} {d : Nat} (hk : Kf k d) (hq : InD 2 128 q) : BnQ (q * k) := by
  have hd := hk.d0
  have h6 := hk.d6
  exact (hq.mul hk.k (by decide) hd).bn (by omega) (by omega) (by decide)
theorem times_chk {b : BmP} (h : BmG b) {k : Rat} {d : Nat} (hk : Kf k d) : BmC (b.times k) := by
  have hC := h.chk
  have hf := h.hf
  refine ⟨times_lies h.lies k, hC.len, hC.l, hC.r, fun f hm => ?_, fun s hm => ?_, ?_, ?_⟩
  · obtain ⟨g, hg, rfl⟩ := List.mem_map.1 hm
    exact ⟨(hC.f g hg).1, times_bn hk (hf.f2 g hg)⟩
  · obtain ⟨g, hg, rfl⟩ := List.mem_map.1 hm
    exact ⟨(hC.s g hg).1, (hC.s g hg).2.1, times_bn hk (hf.s3 g hg)⟩
  · show (b.fs.map _).length ≤ 64; rw [List.length_map]; exact hC.lf
  · show (b.ss.map _).length ≤ 64; rw [List.length_map]; exact hC.ls
theorem times_fold {b : BmP} (h : BmG b) {k : Rat} {d : Nat} (hk : Kf k d) {x : Rat} (hx : szQ x 40) : FoldZ (b.times k) x := by
  have hF := fit_fold h.hf hx
  obtain ⟨_, _, _, _, zs⟩ := Hf_z h.hf
  have hc : ∀ s ∈ b.ss, szQ (cut x s) 40 := fun s hm => by
    unfold cut; split
    · exact hx
    · exact (zs s hm).2.1
  refine ⟨fun f hm => ?_, fun s hm => ?_, fun s hm => ?_, fun s hm => ?_⟩
  · obtain ⟨g, hg, rfl⟩ := List.mem_map.1 hm; exact hF.f g hg
  · obtain ⟨g, hg, rfl⟩ := List.mem_map.1 hm; exact hF.s g hg
  · obtain ⟨g, hg, rfl⟩ := List.mem_map.1 hm
    have hm := hF.m g hg
    exact ⟨hm.a, hm.b, hm.c, sz2 ((zs g hg).2.2.mul hk.sz) ((hc g hg).sub (zs g hg).1) (by decide)⟩
  · obtain ⟨g, hg, rfl⟩ := List.mem_map.1 hm; exact hF.c g hg
theorem split_map {α β : Type} {f : α → β} {l : List α} {l1 l2 : List β} {p : β} (h : l.map f = l1 ++ p :: l2) : ∃ m1 q m2, l = m1 ++ q :: m2 ∧ m1.map f = l1 ∧ f q = p := by
  obtain ⟨m1, m2, e, h1, h2⟩ := List.map_eq_append_iff.1 h
  obtain ⟨q, m3, e2, h3, h4⟩ := List.map_eq_cons_iff.1 h2
  exact ⟨m1, q, m3, by rw [e, e2], h1, h3⟩
theorem times_rc {b : BmP} (h : BmG b) {k : Rat} {d : Nat} (hk : Kf k d) : RcZ (b.times k) := by
  have hf := h.hf
  have hzk := hk.sz
  obtain ⟨zlen, zl, zr, _, _⟩ := Hf_z hf
  obtain ⟨hp, hn⟩ := Hf_pts hf (D := 1) (by decide) (fit_len hf)
  have p1 : ∀ p ∈ b.pts b.len, szQ p.1 40 ∧ szQ p.2 40 := fun p hm => ⟨(hp p hm).1.z40 (by decide) (by decide) (by decide), (hp p hm).2.z40 (by decide) (by decide) (by decide)⟩
  have tu := Hf_turn hf
  obtain ⟨_, e2, e3⟩ := h.ends
  have hlf := hf.fn
  have hls := hf.sn
  have hmem : ∀ {l1 pt l2}, b.pts b.len = l1 ++ pt :: l2 → pt ∈ b.pts b.len := fun e => by rw [e]; exact List.mem_append_right _ (List.mem_cons_self ..)
  refine ⟨times_fold h hk zlen, ?_, ?_, fun l1 pt l2 e => ?_, fun l1 pt l2 e => ?_, sz2 zr zl (by decide), ?_, h.rc.nz, ?_⟩
  · show (b.fs.map _).length ≤ 1000; rw [List.length_map]; omega
  · show (b.ss.map _).length ≤ 1000; rw [List.length_map]; omega
  · have e : (b.times k).pts b.len = l1 ++ pt :: l2 := e
    rw [times_pts] at e
    obtain ⟨m1, q, m2, e0, rfl, rfl⟩ := split_map e
    have ha : InD 4 (18 * 100000) (accQ tW 0 m1) := (accQ_pre (M := 100000) e0 (InD.zero 4) fun p hm => (hp p hm).2).mono (by omega)
    rw [zero_k k, times_acc (t := tW) (fun p => rfl)]
    exact sz2 ((ha.z40 (by decide) (by decide) (by decide)).mul hzk) ((p1 q (hmem e0)).2.mul hzk) (by decide)
  · have e : (b.times k).pts b.len = l1 ++ pt :: l2 := e
    rw [times_pts] at e
    obtain ⟨m1, q, m2, e0, rfl, rfl⟩ := split_map e
    obtain ⟨z1, z2⟩ := p1 q (hmem e0)
    have zd := z1.sub zl
    refine ⟨sz2 z1 zl (by decide), sz2 (z2.mul hzk) zd (by decide), ?_⟩
    show Sz2 (accQ (tT b.l) 0 _) _
    rw [zero_k k, times_acc (t := tT b.l) (fun p => by unfold tT; grind)]
    exact sz2 (((tu.2 m1 _ e0).z40 (by decide) (by decide) (by decide)).mul hzk) ((z2.mul hzk).mul zd) (by decide)
  · rw [times_turn]
    exact sz2 ((tu.1.z40 (by decide) (by decide) (by decide)).mul hzk) (zr.sub zl) (by decide)
  · rw [times_total, times_right]
    exact sz2 (e3.mul hzk) (e2.mul hzk) (by decide)
theorem times_mo {b : BmP} (h : BmG b) {k : Rat} {d : Nat} (hk : Kf k d) {x : Rat} (D : Nat) (h0 : 0 < D) (hD : D ≤ dMax) (hx : InD (2 * D) (100 * D) x) : MoZ (b.times k) x := by
  have hf := h.hf
  have hzk := hk.sz
  obtain ⟨zlen, zl, zr, _, _⟩ := Hf_z hf
  obtain ⟨c, hc⟩ := h.span
  have hc1 := hc.pos
  have hc2 := hc.le
  obtain ⟨e1, e2, _⟩ := h.ends
  have zx := fit_x h0 hD hx
  have m1 := (e1.mul hzk).mul (zx.sub zl)
  have m2 := (e2.mul hzk).mul (zx.sub zr)
  have hl := times_left b k
  have hr := times_right b k
  have a2 : szQ (if b.l < x then b.left * k * (x - b.l) else 0) (40 + 5 + (40 + 40 + 1)) := by
    split
    · exact m1
    · exact sz00.mono (by decide)
  refine ⟨times_rc h hk, times_fold h hk zx, sz2 zl zx (by decide), sz2 zr zx (by decide), sz2 zx zl (by decide), sz2 zx zr (by decide), ?_, ?_, ?_, ?_, fun l1 pt l2 e => ?_⟩
  · rw [hl]; exact sz2 (e1.mul hzk) (zx.sub zl) (by decide)
  · rw [hr]; exact sz2 (e2.mul hzk) (zx.sub zr) (by decide)
  · rw [hl]; exact sz2 sz00 m1 (by decide)
  · rw [hl, hr]; exact sz2 a2 m2 (by decide)
  · rw [times_pts] at e
    obtain ⟨k1, q, k2, e0, rfl, rfl⟩ := split_map e
    obtain ⟨z1, z2⟩ := fit_pts hf h0 hD hx q (by rw [e0]; exact List.mem_append_right _ (List.mem_cons_self ..))
    have zs : szQ (accQ (tM x) (b.supM x) k1) 40 := (Hf_moment hf hc h0 hx e0).z40 (pos_mul (pos_mul (by omega) (by omega)) h0) (Nat.lt_of_le_of_lt (Nat.mul_le_mul (le32 hc2 hD) hD) (by decide)) (Nat.lt_of_le_of_lt (Nat.mul_le_mul_left _ (Nat.mul_le_mul hD hD)) (by decide))
    refine ⟨sz2 zx z1 (by decide), sz2 (z2.mul hzk) (zx.sub z1) (by decide), ?_⟩
    rw [times_supM, times_acc (t := tM x) (fun p => by unfold tM; grind)]
    exact sz2 (zs.mul hzk) ((z2.mul hzk).mul (zx.sub z1)) (by decide)
end Go.Proofs.YtddadjbflgdomaaGreatDoor
namespace Go.Proofs.YtddadjbflgdomaaGreatDoor
open Go Go.RowKit Go.Am Go.Lib
set_option maxRecDepth 10000
-- BOXES 9
-- CODE2
def tmF (b : BmP) (k : Rat) (i : Nat) : List (Rat × Rat) := (b.fs.take i).map fun f => (f.1, f.2 * k)
def tmS (b : BmP) (k : Rat) (i : Nat) : List (Rat × Rat × Rat) := (b.ss.take i).map fun s => (s.1, s.2.1, s.2.2 * k)
theorem tmF_succ {b : BmP} {k : Rat} {i : Nat} (hi : i < b.fs.length) : tmF b k (i + 1) = tmF b k i ++ [(b.fs[i].1, b.fs[i].2 * k)] := by
  unfold tmF; rw [List.take_add_one, List.getElem?_eq_getElem hi, List.map_append]; rfl
theorem tmS_succ {b : BmP} {k : Rat} {i : Nat} (hi : i < b.ss.length) : tmS b k (i + 1) = tmS b k i ++ [(b.ss[i].1, b.ss[i].2.1, b.ss[i].2.2 * k)] := by
  unfold tmS; rw [List.take_add_one, List.getElem?_eq_getElem hi, List.map_append]; rfl
theorem tmF_all (b : BmP) (k : Rat) : tmF b k b.fs.length = (b.times k).fs := by unfold tmF; rw [List.take_length]; rfl
theorem tmS_all (b : BmP) (k : Rat) : tmS b k b.ss.length = (b.times k).ss := by unfold tmS; rw [List.take_length]; rfl
abbrev bmT (g : Nat) (b : BmP) (u v : Value) : Bx := ⟨g, 31, [str (numS b.len), str (numS b.l), str (numS b.r), u, v], true, none⟩
set_option maxHeartbeats 32000000 in
theorem scales_gives (x : SmB) (z : Int) (hz : -128 ≤ z ∧ z ≤ 127) (a d : Nat) (ha : a < 256) (hd : d < 256) (p q : Option Addr) (m n : Nat) (W : World) (hM : SmbM W x p q m n) (hv : MaxP W) (ht : TabP W) :
    CallsR Tryz.prog 5 #[smbV x p q m n, .int .u8 (a : Nat), .int .i8 z, .int .u8 (d : Nat)] W (fun _ : Unit => .bool true) (fun _ => True) (fun _ => []) := by
  have hg := SmB.good hM.ok
  have hC := hg.chk
  have hn := x.n_rng
  have ba := hM.ba
  have hfn := hg.hf.fn
  have hsn := hg.hf.sn
  obtain ⟨dd, hdd⟩ : ∃ e, e = d % 6 + 1 := ⟨_, rfl⟩
  obtain ⟨k, hk⟩ : ∃ k, k = nrm z (dd : Nat) := ⟨_, rfl⟩
  have hK : Kf k dd := ⟨hk ▸ InD.ofN z (by omega) (by omega), by omega, by omega⟩
  have hzk := hK.sz
  have hCk := times_chk hg hK
  obtain ⟨j0, hj0⟩ : ∃ k, k = a % (x.n + 1) := ⟨_, rfl⟩
  have hjn : j0 ≤ x.n := by
    have : j0 < x.n + 1 := by rw [hj0]; exact Nat.mod_lt _ (by omega)
    omega
  obtain ⟨u, hu⟩ : ∃ u, u = nrm (j0 : Nat) 2 := ⟨_, rfl⟩
  have iu : InD (2 * 1) (100 * 1) u := hu ▸ half_in hjn
  have hpl : 0 ≤ u ∧ u ≤ x.of.len := by rw [hu]; exact half_place hjn
  have pu : PlQ x.of u := BmG.pl 1 (by decide) (by decide) iu hpl.1 hpl.2
  have pk : PlQ (x.of.times k) u := BmG.pl (b := x.of.times k) 1 (by decide) (by decide) iu hpl.1 hpl.2
  obtain ⟨mu, zmu⟩ := hg.mo 1 (by decide) (by decide) iu
  have mk := times_mo hg hK 1 (by decide) (by decide) iu
  obtain ⟨_, _, _, zfs, zss⟩ := Hf_z hg.hf
  refine calls_enter (args := [smbV x p q m n, .int .u8 (a : Nat), .int .i8 z, .int .u8 (d : Nat)]) Tryz.func5 rfl rfl rfl ?_
  refine zA ?_
  refine zB ?_
  (refine wl_box rfl rfl rfl rfl ?_; intro)
  refine wl_pure Tryz.hT rfl rfl rfl ?_
  refine wl_nil ?_
  rename_i b4
  refine zE ?_
  refine zA ?_
  refine zB ?_
  refine wl_loadBx 0 Tryz.hT rfl rfl rfl rfl rfl rfl rfl rfl ?_
  refine wl_call (X := BmV x.of) rfl rfl rfl rfl rfl rfl (by kernel_rfl) (fun W hp => lawof_gives x p q m n W (hM.hp hp) (hv.hp hp) (ht.hp hp)) ?_
  intro V _
  iterate 3 refine wl_pure Tryz.hT rfl rfl rfl ?_
  (refine wl_allocZ Tryz.hZ rfl rfl rfl rfl ?_; intro)
  refine wl_storeBx 3 Tryz.hT rfl rfl rfl rfl rfl rfl rfl rfl rfl rfl rfl ?_
  refine wl_pure Tryz.hT rfl rfl rfl ?_
  refine wl_nil ?_
  rename_i b9
  refine zE ?_
  refine zA ?_
  refine zB ?_
  refine wl_pure Tryz.hT rfl rfl rfl ?_
  refine wl_cvA Tryz.underlying48 Tryz.underlying3 rfl rfl rfl rfl ?_
  refine wl_upd 36 (.int .i64 z) rfl (congrArg (Value.int .i64) (w64_id (by omega) (by omega))) ?_
  refine wl_pure Tryz.hT rfl rfl rfl ?_
  refine wl_cvA Tryz.underlying5 Tryz.underlying3 rfl rfl rfl rfl ?_
  refine wl_upd 38 (.int .i64 (d : Nat)) rfl (congrArg (Value.int .i64) (w64_nat (by omega))) ?_
  refine wl_rem rfl rfl rfl rfl rfl (by decide) ?_
  refine wl_upd 39 (.int .i64 ((d % 6 : Nat) : Int)) rfl (congrArg (Value.int .i64) (by rw [Int.tmod_eq_emod_of_nonneg (by omega)]; omega)) ?_
  refine wl_pure Tryz.hT rfl rfl rfl ?_
  refine wl_upd 40 (.int .i64 (dd : Nat)) rfl (congrArg (Value.int .i64) (by show w64 (((d % 6 : Nat) : Int) + 1) = _; rw [w64_id (by omega) (by omega)]; omega)) ?_
  refine wl_call1 rfl rfl rfl rfl rfl rfl (by kernel_rfl) (fun W1 hp => (rof_gives z (dd : Nat) (by omega) (by omega) W1 (ht.hp hp)).cast (by rw [ofR, if_neg (by omega), ← hk])) ?_
  iterate 5 refine wl_pure Tryz.hT rfl rfl rfl ?_
  refine wl_nil ?_
  refine zE ?_
  refine zA ?_
  refine zB ?_
  refine wl_loadBx 3 Tryz.hT rfl rfl rfl rfl rfl rfl rfl rfl ?_
  (refine wl_allocZ Tryz.hZ rfl rfl rfl rfl ?_; intro)
  refine wl_storeBx 4 Tryz.hT rfl rfl rfl rfl rfl rfl rfl rfl rfl rfl rfl ?_
  refine wl_nil ?_
  rename_i b13
  refine zE ?_
  refine zA ?_
  refine zB ?_
  refine wl_pure Tryz.hT rfl rfl rfl ?_
  refine wl_storeBx 4 Tryz.hT rfl rfl rfl rfl rfl rfl rfl rfl rfl rfl rfl ?_
  refine wl_pure Tryz.hT rfl rfl rfl ?_
  refine wl_storeBx 4 Tryz.hT rfl rfl rfl rfl rfl rfl rfl rfl rfl rfl rfl ?_
  refine wl_nil ?_
  refine zE ?_
  iterate 2 refine zA ?_
  refine zB ?_
  refine wl_pure Tryz.hT rfl rfl rfl ?_
  refine wl_loadBx 3 Tryz.hT rfl rfl rfl rfl rfl rfl rfl rfl ?_
  iterate 2 refine wl_pure Tryz.hT rfl rfl rfl ?_
  refine wl_nil ?_
  refine zE ?_
  refine zH ?_
  refine wc_newGone ?_
  refine wc_loop (X := Nat × Vec) (fun s => [(1, .int .u8 (a : Nat)), (4, selfP b4), (9, selfP b9), (10, .bool true), (11, str (numS k)), (12, .int .i64 0), (13, selfP b13), (48, .slice (vAdr V.f) x.of.fs.length (vCap V.f)), (49, .int .i64 (x.of.fs.length : Nat)), (50, .int .i64 (s.1 : Nat))])
    (fun s => [smbB b4 x p q m n, V.bf, V.bs, bmB b9 x.of (vAdr V.f) (vCap V.f) (vAdr V.s) (vCap V.s), bmT b13 x.of (s.2.val s.1) (.slice none 0 0), s.2.bx 46 (foC (tmF x.of k s.1))])
    (fun s => s.1 ≤ x.of.fs.length ∧ s.2.OK 2 s.1 (foC (tmF x.of k s.1))) (fun s => x.of.fs.length - s.1) (0, Vec.empty) ⟨Nat.zero_le _, Vec.OK.empty 2⟩ ⟨rfl, rfl, rfl, rfl, rfl, rfl, rfl, rfl, rfl, rfl, trivial⟩ [] rfl ?_
  rintro ⟨i, U⟩ ⟨hi, hU⟩
  have hi : i ≤ x.of.fs.length := hi
  have hU : U.OK 2 i (foC (tmF x.of k i)) := hU
  refine zA ?_
  refine zB ?_
  refine wl_pure Tryz.hT rfl rfl rfl ?_
  by_cases hlt : i < x.of.fs.length
  · refine wl_upd 51 (.bool true) rfl (congrArg Value.bool (decide_eq_true (by omega))) ?_
    refine wl_nil ?_
    refine zE ?_
    refine zA ?_
    refine zR rfl ?_
    refine zI ?_
    refine zE ?_
    refine zA ?_
    refine zH ?_
    refine zA ?_
    refine zB ?_
    obtain ⟨g, hgV, hrow⟩ := V.frow hlt
    obtain ⟨f, hfe⟩ : ∃ f, f = x.of.fs[i] := ⟨_, rfl⟩
    have hsuc := tmF_succ (k := k) hlt
    rw [← hfe] at hsuc hrow
    have zf := zfs f (hfe ▸ List.getElem_mem hlt)
    refine wl_upd 48 (.slice (some ⟨g, 0, none⟩) x.of.fs.length (vCap V.f)) rfl (by rw [hgV]) ?_
    refine wl_indexAddr Tryz.hT rfl rfl rfl rfl rfl rfl rfl (by omega) (by omega) ?_
    refine wl_load rfl rfl rfl rfl (fun W hp => RowAt.load 0 Tryz.hT rfl ((fun W1 hp => show RowAt W1 g (0 + i * 2) [str (numS f.1), str (numS f.2)] from hrow 1 rfl hp) W hp) rfl) ?_
    (refine wl_allocZ Tryz.hZ rfl rfl rfl rfl ?_; intro)
    refine wl_storeBx 6 Tryz.hT rfl rfl rfl rfl rfl rfl rfl rfl rfl rfl rfl ?_
    refine wl_nil ?_
    refine zE ?_
    refine zA ?_
    refine zB ?_
    refine wl_pure Tryz.hT rfl rfl rfl ?_
    refine wl_loadBx 6 Tryz.hT rfl rfl rfl rfl rfl rfl rfl rfl ?_
    refine wl_pure Tryz.hT rfl rfl rfl ?_
    refine wl_call1 rfl rfl rfl rfl rfl rfl (by kernel_rfl) (fun W1 hp => rmul_gives f.2 k (sz2 zf.2 hzk (by decide)) W1 (hv.hp hp) (ht.hp hp)) ?_
    iterate 5 refine wl_pure Tryz.hT rfl rfl rfl ?_
    refine wl_nil ?_
    refine zE ?_
    refine zA ?_
    refine zB ?_
    iterate 4 refine wl_pure Tryz.hT rfl rfl rfl ?_
    refine wl_nil ?_
    refine zE ?_
    refine zB ?_
    refine wl_pure Tryz.hT rfl rfl rfl ?_
    refine wl_loadBx 4 Tryz.hT rfl rfl rfl rfl rfl rfl rfl rfl ?_
    refine wl_pure Tryz.hT rfl rfl rfl ?_
    refine wl_loadBx 6 Tryz.hT rfl rfl rfl rfl rfl rfl rfl rfl ?_
    refine wl_pure Tryz.hT rfl rfl rfl ?_
    refine wl_buildZ Tryz.hZ Tryz.hT rfl rfl rfl rfl rfl rfl rfl rfl ?_
    (refine wl_buildRowZ Tryz.hZ Tryz.hT rfl rfl rfl rfl rfl rfl rfl rfl rfl rfl rfl ?_; intro)
    refine wl_appendTo (V := U) (len := i) (xs := foC (tmF x.of k i)) 5 7 Tryz.vec28 (i + 1) (foC (tmF x.of k (i + 1))) rfl rfl rfl rfl rfl rfl rfl rfl rfl rfl rfl hU rfl rfl rfl (by rw [hsuc, foC_app]; rfl) (by simp only [maxLen]; omega) (by omega) rfl ?_
    intro gV cV jV hV1
    refine wl_pure Tryz.hT rfl rfl rfl ?_
    refine wl_storeBx 4 Tryz.hT rfl rfl rfl rfl rfl rfl rfl rfl rfl rfl rfl ?_
    refine wl_nil ?_
    refine zN ?_
    refine zE ?_
    refine zB ?_
    refine wl_pure Tryz.hT rfl rfl rfl ?_
    refine wl_upd 73 (.int .i64 ((i + 1 : Nat) : Int)) rfl (congrArg (Value.int .i64) (w64_succ (by omega))) ?_
    refine wl_pure Tryz.hT rfl rfl rfl ?_
    refine wl_nil ?_
    exact ne_loop (i + 1, ⟨some gV, cV, jV⟩) ⟨hlt, hV1⟩ (by show x.of.fs.length - (i + 1) < x.of.fs.length - i; omega) ⟨rfl, rfl, rfl, rfl, rfl, rfl, rfl, by rw [hgV]; rfl, rfl, rfl, trivial⟩ [_, _] rfl
  have e : i = x.of.fs.length := by omega
  subst e
  refine wl_upd 51 (.bool false) rfl (congrArg Value.bool (decide_eq_false (by omega))) ?_
  refine wl_nil ?_
  refine zE ?_
  refine zA ?_
  refine zS rfl ?_
  refine zJ ?_
  iterate 2 refine zK ?_
  refine zL ?_
  refine zE ?_
  iterate 2 refine zA ?_
  refine zB ?_
  refine wl_pure Tryz.hT rfl rfl rfl ?_
  refine wl_loadBx 3 Tryz.hT rfl rfl rfl rfl rfl rfl rfl rfl ?_
  iterate 2 refine wl_pure Tryz.hT rfl rfl rfl ?_
  refine wl_nil ?_
  refine zE ?_
  refine zH ?_
  refine wc_newGone ?_
  refine wc_loop (X := Nat × Vec) (fun s => [(1, .int .u8 (a : Nat)), (4, selfP b4), (9, selfP b9), (10, .bool true), (11, str (numS k)), (12, .int .i64 0), (13, selfP b13), (75, .slice (vAdr V.s) x.of.ss.length (vCap V.s)), (76, .int .i64 (x.of.ss.length : Nat)), (77, .int .i64 (s.1 : Nat))])
    (fun s => [smbB b4 x p q m n, V.bf, V.bs, bmB b9 x.of (vAdr V.f) (vCap V.f) (vAdr V.s) (vCap V.s), bmT b13 x.of (U.val x.of.fs.length) (s.2.val s.1), U.bx 46 (foC (tmF x.of k x.of.fs.length)), s.2.bx 51 (spC (tmS x.of k s.1))])
    (fun s => s.1 ≤ x.of.ss.length ∧ s.2.OK 3 s.1 (spC (tmS x.of k s.1))) (fun s => x.of.ss.length - s.1) (0, Vec.empty) ⟨Nat.zero_le _, Vec.OK.empty 3⟩ ⟨rfl, rfl, rfl, rfl, rfl, rfl, rfl, rfl, rfl, rfl, trivial⟩ [] rfl ?_
  rintro ⟨j, S⟩ ⟨hj, hS⟩
  have hj : j ≤ x.of.ss.length := hj
  have hS : S.OK 3 j (spC (tmS x.of k j)) := hS
  refine zA ?_
  refine zB ?_
  refine wl_pure Tryz.hT rfl rfl rfl ?_
  by_cases hlt : j < x.of.ss.length
  · refine wl_upd 78 (.bool true) rfl (congrArg Value.bool (decide_eq_true (by omega))) ?_
    refine wl_nil ?_
    refine zE ?_
    refine zA ?_
    refine zR rfl ?_
    refine zI ?_
    refine zE ?_
    refine zA ?_
    refine zH ?_
    refine zA ?_
    refine zB ?_
    obtain ⟨g, hgV, hrow⟩ := V.srow hlt
    obtain ⟨f, hfe⟩ : ∃ f, f = x.of.ss[j] := ⟨_, rfl⟩
    have hsuc := tmS_succ (k := k) hlt
    rw [← hfe] at hsuc hrow
    have zf := zss f (hfe ▸ List.getElem_mem hlt)
    refine wl_upd 75 (.slice (some ⟨g, 0, none⟩) x.of.ss.length (vCap V.s)) rfl (by rw [hgV]) ?_
    refine wl_indexAddr Tryz.hT rfl rfl rfl rfl rfl rfl rfl (by omega) (by omega) ?_
    refine wl_load rfl rfl rfl rfl (fun W hp => RowAt.load 0 Tryz.hT rfl ((fun W1 hp => show RowAt W1 g (0 + j * 3) [str (numS f.1), str (numS f.2.1), str (numS f.2.2)] from hrow 2 rfl hp) W hp) rfl) ?_
    (refine wl_allocZ Tryz.hZ rfl rfl rfl rfl ?_; intro)
    refine wl_storeBx 7 Tryz.hT rfl rfl rfl rfl rfl rfl rfl rfl rfl rfl rfl ?_
    refine wl_nil ?_
    refine zE ?_
    refine zA ?_
    refine zB ?_
    refine wl_pure Tryz.hT rfl rfl rfl ?_
    refine wl_loadBx 7 Tryz.hT rfl rfl rfl rfl rfl rfl rfl rfl ?_
    refine wl_pure Tryz.hT rfl rfl rfl ?_
    refine wl_call1 rfl rfl rfl rfl rfl rfl (by kernel_rfl) (fun W1 hp => rmul_gives f.2.2 k (sz2 zf.2.2 hzk (by decide)) W1 (hv.hp hp) (ht.hp hp)) ?_
    iterate 5 refine wl_pure Tryz.hT rfl rfl rfl ?_
    refine wl_nil ?_
    refine zE ?_
    refine zA ?_
    refine zB ?_
    iterate 4 refine wl_pure Tryz.hT rfl rfl rfl ?_
    refine wl_nil ?_
    refine zE ?_
    refine zB ?_
    refine wl_pure Tryz.hT rfl rfl rfl ?_
    refine wl_loadBx 4 Tryz.hT rfl rfl rfl rfl rfl rfl rfl rfl ?_
    refine wl_pure Tryz.hT rfl rfl rfl ?_
    refine wl_loadBx 7 Tryz.hT rfl rfl rfl rfl rfl rfl rfl rfl ?_
    refine wl_pure Tryz.hT rfl rfl rfl ?_
    refine wl_loadBx 7 Tryz.hT rfl rfl rfl rfl rfl rfl rfl rfl ?_
    refine wl_pure Tryz.hT rfl rfl rfl ?_
    refine wl_buildZ Tryz.hZ Tryz.hT rfl rfl rfl rfl rfl rfl rfl rfl ?_
    (refine wl_buildRowZ Tryz.hZ Tryz.hT rfl rfl rfl rfl rfl rfl rfl rfl rfl rfl rfl ?_; intro)
    refine wl_appendTo (V := S) (len := j) (xs := spC (tmS x.of k j)) 6 8 Tryz.vec29 (j + 1) (spC (tmS x.of k (j + 1))) rfl rfl rfl rfl rfl rfl rfl rfl rfl rfl rfl hS rfl rfl rfl (by rw [hsuc, spC_app]; rfl) (by simp only [maxLen]; omega) (by omega) rfl ?_
    intro gV cV jV hV1
    refine wl_pure Tryz.hT rfl rfl rfl ?_
    refine wl_storeBx 4 Tryz.hT rfl rfl rfl rfl rfl rfl rfl rfl rfl rfl rfl ?_
    refine wl_nil ?_
    refine zN ?_
    refine zE ?_
    refine zB ?_
    refine wl_pure Tryz.hT rfl rfl rfl ?_
    refine wl_upd 102 (.int .i64 ((j + 1 : Nat) : Int)) rfl (congrArg (Value.int .i64) (w64_succ (by omega))) ?_
    refine wl_pure Tryz.hT rfl rfl rfl ?_
    refine wl_nil ?_
    exact ne_loop (j + 1, ⟨some gV, cV, jV⟩) ⟨hlt, hV1⟩ (by show x.of.ss.length - (j + 1) < x.of.ss.length - j; omega) ⟨rfl, rfl, rfl, rfl, rfl, rfl, rfl, by rw [hgV]; rfl, rfl, rfl, trivial⟩ [_, _] rfl
  have e : j = x.of.ss.length := by omega
  subst e
  refine wl_upd 78 (.bool false) rfl (congrArg Value.bool (decide_eq_false (by omega))) ?_
  refine wl_nil ?_
  have l1 : (x.of.times k).fs.length = x.of.fs.length := List.length_map _
  have l2 : (x.of.times k).ss.length = x.of.ss.length := List.length_map _
  have e1 := tmF_all x.of k
  have e2 := tmS_all x.of k
  obtain ⟨VV, rfl, rfl⟩ : ∃ VV : BmV (x.of.times k), VV.f = U ∧ VV.s = S := ⟨⟨U, S, by rw [l1, ← e1]; exact hU, by rw [l2, ← e2]; exact hS⟩, rfl, rfl⟩
  refine ne_bx (bxs' := [smbB b4 x p q m n, V.bf, V.bs, bmB b9 x.of (vAdr V.f) (vCap V.f) (vAdr V.s) (vCap V.s), bmB b13 (x.of.times k) (vAdr VV.f) (vCap VV.f) (vAdr VV.s) (vCap VV.s), VV.bf, VV.bs]) (by
    rw [vec_val hU, vec_val hS]
    show [_, _, _, _, (⟨b13, 31, [_, _, _, .slice (vAdr VV.f) x.of.fs.length (vCap VV.f), .slice (vAdr VV.s) x.of.ss.length (vCap VV.s)], true, none⟩ : Bx), VV.f.bx 46 (foC (tmF x.of k x.of.fs.length)), VV.s.bx 51 (spC (tmS x.of k x.of.ss.length))] = [_, _, _, _, (⟨b13, 31, [_, _, _, .slice (vAdr VV.f) (x.of.times k).fs.length (vCap VV.f), .slice (vAdr VV.s) (x.of.times k).ss.length (vCap VV.s)], true, none⟩ : Bx), _, _]
    rw [e1, e2, l1, l2]
    rfl) ?_
  refine zE ?_
  refine zA ?_
  refine zS rfl ?_
  refine zJ ?_
  iterate 2 refine zK ?_
  refine zL ?_
  refine zE ?_
  refine zA ?_
  refine zB ?_
  refine wl_pure Tryz.hT rfl rfl rfl ?_
  refine wl_cvA Tryz.underlying5 Tryz.underlying3 rfl rfl rfl rfl ?_
  refine wl_upd 104 (.int .i64 (a : Nat)) rfl (congrArg (Value.int .i64) (w64_nat (by omega))) ?_
  refine wl_pure Tryz.hT rfl rfl rfl ?_
  refine wl_loadBx 0 Tryz.hT rfl rfl rfl rfl rfl rfl rfl rfl ?_
  refine wl_cvA Tryz.underlying5 Tryz.underlying3 rfl rfl rfl rfl ?_
  refine wl_upd 107 (.int .i64 (x.a : Nat)) rfl (congrArg (Value.int .i64) (w64_nat (by omega))) ?_
  refine wl_rem rfl rfl rfl rfl rfl (by decide) ?_
  refine wl_upd 108 (.int .i64 ((x.a % 24 : Nat) : Int)) rfl (congrArg (Value.int .i64) (by rw [Int.tmod_eq_emod_of_nonneg (by omega)]; omega)) ?_
  refine wl_pure Tryz.hT rfl rfl rfl ?_
  refine wl_upd 109 (.int .i64 ((x.n + 1 : Nat) : Int)) rfl (congrArg (Value.int .i64) (by show w64 (((x.a % 24 : Nat) : Int) + 3) = _; rw [w64_id (by omega) (by omega)]; unfold SmB.n; omega)) ?_
  refine wl_rem rfl rfl rfl rfl rfl (by omega) ?_
  refine wl_upd 110 (.int .i64 (j0 : Nat)) rfl (congrArg (Value.int .i64) (by rw [Int.tmod_eq_emod_of_nonneg (by omega), hj0]; exact (Int.natCast_emod _ _).symm)) ?_
  refine wl_call1 rfl rfl rfl rfl rfl rfl (by kernel_rfl) (fun W1 hp => (bnum_gives (j0 : Nat) (by omega) W1 (ht.hp hp)).cast (by rw [← hu])) ?_
  refine wl_pure Tryz.hT rfl rfl rfl ?_
  refine wl_nil ?_
  refine zE ?_
  refine zA ?_
  refine zB ?_
  refine wl_loadBx 3 Tryz.hT rfl rfl rfl rfl rfl rfl rfl rfl ?_
  refine wl_pure Tryz.hT rfl rfl rfl ?_
  refine wl_call1 rfl rfl rfl rfl rfl rfl (by kernel_rfl) (fun W1 hp => bMoment_gives x.of hC u pu mu (vAdr V.f) (vAdr V.s) (vCap V.f) (vCap V.s) W1 (V.m 1 2 rfl rfl hp hv ht)) ?_
  iterate 5 refine wl_pure Tryz.hT rfl rfl rfl ?_
  refine wl_nil ?_
  refine zE ?_
  refine zA ?_
  refine zB ?_
  refine wl_loadBx 4 Tryz.hT rfl rfl rfl rfl rfl rfl rfl rfl ?_
  refine wl_pure Tryz.hT rfl rfl rfl ?_
  refine wl_call1 rfl rfl rfl rfl rfl rfl (by kernel_rfl) (fun W1 hp => bMoment_gives (x.of.times k) hCk u pk mk (vAdr VV.f) (vAdr VV.s) (vCap VV.f) (vCap VV.s) W1 (VV.m 5 6 rfl rfl hp hv ht)) ?_
  iterate 5 refine wl_pure Tryz.hT rfl rfl rfl ?_
  refine wl_nil ?_
  refine zE ?_
  refine zA ?_
  refine zB ?_
  iterate 2 refine wl_pure Tryz.hT rfl rfl rfl ?_
  refine wl_call1 rfl rfl rfl rfl rfl rfl (by kernel_rfl) (fun W1 hp => rmul_gives (x.of.moment u) k (sz2 zmu hzk (by decide)) W1 (hv.hp hp) (ht.hp hp)) ?_
  iterate 5 refine wl_pure Tryz.hT rfl rfl rfl ?_
  refine wl_nil ?_
  refine zE ?_
  refine zA ?_
  refine zB ?_
  iterate 13 refine wl_pure Tryz.hT rfl rfl rfl ?_
  refine wl_upd 142 (.bool true) rfl (congrArg Value.bool ((strEqB _ _).trans (decide_eq_true (by rw [times_moment])))) ?_
  iterate 2 refine wl_pure Tryz.hT rfl rfl rfl ?_
  refine wl_call1 rfl rfl rfl rfl rfl rfl (by kernel_rfl) (fun W1 hp => awakeB_gives W1 (hv.hp hp) (ht.hp hp)) ?_
  iterate 2 refine wl_pure Tryz.hT rfl rfl rfl ?_
  refine wl_nil ?_
  refine zE ?_
  refine zO ?_
  exact ne_ret1 Tryz.hT rfl (.tmp rfl) () rfl trivial fun W _ => NewBx.nil _ _
end Go.Proofs.YtddadjbflgdomaaGreatDoor
