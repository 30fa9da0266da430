/-
  Rings with the old numbers of their sides in memory; the new numbers.
-/
import Derived.Test.YtnpfkmbcejgnjaaGreatDoorCanLaw
import Derived.Test.YtnpfkmbcejgnjaaGreatDoorRevAt
import Derived.Test.YtnpfkmbcejgnjaaGreatDoorSortP
namespace Go.Proofs.YtnpfkmbcejgnjaaGreatDoor
open Go Go.RowKit Go.Am
/-- A group told in another order. -/
theorem hp_regroup {W0 W : World} {bxs : List Bx} (h : Hp W0 bxs W) {k : Nat} {B B' : Bx} (hk : bxs[k]? = some B) (hB : B'.blk.Perm B.blk) : Hp W0 (bxs.set k B') W := by
  refine ⟨h.below, fun j X hj p hp => ?_, fun j X hj => ?_, fun i j X Y hi hj hne p hp q hq => ?_⟩
  · rcases set_cases hj with ⟨_, rfl⟩ | ⟨_, h2⟩
    · exact h.own.cell k B hk p (hB.mem_iff.1 hp)
    · exact h.own.cell j X h2 p hp
  · rcases set_cases hj with ⟨_, rfl⟩ | ⟨_, h2⟩
    · exact (hB.map _).nodup_iff.2 (h.own.nd k B hk)
    · exact h.own.nd j X h2
  · rcases set_cases hi with ⟨e1, rfl⟩ | ⟨e1, h2⟩ <;> rcases set_cases hj with ⟨e2, rfl⟩ | ⟨e2, h3⟩
    · exact absurd (e1.trans e2.symm) hne
    · exact h.own.apart k j B Y hk h3 (fun e => e2 e.symm) p (hB.mem_iff.1 hp) q hq
    · exact h.own.apart i k X B h2 hk e1 p hp q (hB.mem_iff.1 hq)
    · exact h.own.apart i j X Y h2 h3 hne p hp q hq
theorem ne_regroup {N : Nat} {D : List Deferred} {Q : Exit → Act → World → Prop} {env : Env} {W0 : World} {bxs : List Bx} (k : Nat) {e : Exit} {B : Bx} (B' : Bx) (hk : nth bxs k = some B) (hB : B'.blk.Perm B.blk) (h : NE N D Q e env (Hp W0 (bxs.set k B'))) : NE N D Q e env (Hp W0 bxs) := .mk fun a W ha hd hp =>
  h.out a W ha hd (hp_regroup hp (by rw [← nth_eq]; exact hk) hB)
theorem wc_regroup {r : Option Nat} {n : Nat} {N : Nat} {D : List Deferred} {Q : Exit → Act → World → Prop} {env : Env} {W0 : World} {bxs : List Bx} {P : Program} {c : Code} (k : Nat) {B : Bx} (B' : Bx) (hk : nth bxs k = some B) (hB : B'.blk.Perm B.blk) (h : WC r n P N D c Q env (Hp W0 (bxs.set k B'))) : WC r n P N D c Q env (Hp W0 bxs) := .mk fun a W ha hd hp =>
  h.out a W ha hd (hp_regroup hp (by rw [← nth_eq]; exact hk) hB)
abbrev MadeN := List (Vec × List Int)
def numB (mn : MadeN) : Bx := grpB (mn.reverse.flatMap fun p => (p.1.bx 3 (ci p.2)).blk)
theorem numB_snoc (mn : MadeN) (U : Vec) (l : List Int) : (numB (mn ++ [(U, l)])).blk = (U.bx 3 (ci l)).blk ++ (numB mn).blk := by
  show ((mn ++ [(U, l)]).reverse.flatMap _) = _ ++ (mn.reverse.flatMap _)
  rw [List.reverse_append]
  simp
/-- A ring and the old numbers of its sides, as a function has made them. -/
abbrev MadeP := List ((Vec × List Sd) × (Vec × List Int))
def prV (x : (Vec × List Sd) × (Vec × List Int)) : List Value := [x.1.1.val x.1.2.length, x.2.1.val x.2.2.length]
def prCells (mp : MadeP) : List Value := mp.flatMap prV
theorem prCells_snoc (mp : MadeP) (x : (Vec × List Sd) × (Vec × List Int)) : prCells (mp ++ [x]) = prCells mp ++ prV x := by simp [prCells]
theorem prCells_len : ∀ mp : MadeP, (prCells mp).length = mp.length * 2
  | [] => rfl
  | x :: mp => by
    show (prV x ++ prCells mp).length = _
    rw [List.length_append, prCells_len mp, List.length_cons]
    show 2 + mp.length * 2 = (mp.length + 1) * 2
    omega
theorem prCells_split {mp : MadeP} {k : Nat} {x : (Vec × List Sd) × (Vec × List Int)} (h : mp[k]? = some x) : prCells mp = prCells (mp.take k) ++ (prV x ++ prCells (mp.drop (k + 1))) := by
  obtain ⟨hk, rfl⟩ := List.getElem?_eq_some_iff.1 h
  have e : mp = mp.take k ++ (mp[k] :: mp.drop (k + 1)) := by
    have h2 := List.take_append_drop k mp
    rw [List.drop_eq_getElem_cons hk] at h2
    exact h2.symm
  conv => lhs; rw [e]
  unfold prCells
  rw [List.flatMap_append]; rfl
structure PairsOK (mp : MadeP) (ps : List PR) : Prop where
  eq : mp.map (fun p => (p.1.2, p.2.2)) = ps
  ok : ∀ p ∈ mp, p.1.1.OK 7 p.1.2.length (cellsOf p.1.2) ∧ p.2.1.OK 1 p.2.2.length (ci p.2.2) ∧ p.1.1.p ≠ none ∧ p.2.1.p ≠ none
theorem PairsOK.len {mp : MadeP} {ps : List PR} (h : PairsOK mp ps) : mp.length = ps.length := by rw [← h.eq, List.length_map]
theorem PairsOK.snoc {mp : MadeP} {ps : List PR} {x : (Vec × List Sd) × (Vec × List Int)} (h : PairsOK mp ps) (h1 : x.1.1.OK 7 x.1.2.length (cellsOf x.1.2)) (h2 : x.2.1.OK 1 x.2.2.length (ci x.2.2)) (h3 : x.1.1.p ≠ none) (h4 : x.2.1.p ≠ none) : PairsOK (mp ++ [x]) (ps ++ [(x.1.2, x.2.2)]) := by
  refine ⟨by rw [List.map_append, h.eq]; rfl, fun p hp => ?_⟩
  rcases List.mem_append.1 hp with hp | hp
  · exact h.ok p hp
  · obtain rfl := List.mem_singleton.1 hp
    exact ⟨h1, h2, h3, h4⟩
def sort2M : MadeP → MadeP
  | [x, y, z] => if cmpS (sd z.1.2 0) (sd y.1.2 0) < 0 then [x, z, y] else [x, y, z]
  | l => l
theorem sort2M_perm : ∀ mp : MadeP, (sort2M mp).Perm mp
  | [] => .refl _
  | [_] => .refl _
  | [_, _] => .refl _
  | [x, y, z] => by
    show (if _ then [x, z, y] else [x, y, z]).Perm _
    split
    · exact (List.Perm.swap ..).cons _
    · exact .refl _
  | _ :: _ :: _ :: _ :: _ => .refl _
theorem PairsOK.sort {mp : MadeP} {ps : List PR} (h : PairsOK mp ps) : PairsOK (sort2M mp) (sort2 ps) := by
  refine ⟨?_, fun p hp => h.ok p ((sort2M_perm mp).mem_iff.1 hp)⟩
  rw [← h.eq]
  match mp with
  | [] => rfl
  | [_] => rfl
  | [_, _] => rfl
  | [x, y, z] =>
    show List.map _ (if cmpS (sd z.1.2 0) (sd y.1.2 0) < 0 then [x, z, y] else [x, y, z]) = (x.1.2, x.2.2) :: (if cmpS (sd z.1.2 0) (sd y.1.2 0) < 0 then [(z.1.2, z.2.2), (y.1.2, y.2.2)] else [(y.1.2, y.2.2), (z.1.2, z.2.2)])
    split <;> rfl
  | _ :: _ :: _ :: _ :: _ => rfl
section
variable {W0 W : World} {bxs : List Bx}
/-- A made ring in its group. -/
theorem ring_grp (hp : Hp W0 bxs W) (k : Nat) {mk : Made} (hk : nth bxs k = some (mkB mk)) {x : Vec × List Sd} (hx : x ∈ mk) {g : Nat} (hg : x.1.p = some g) : RingP W (some ⟨g, 0, none⟩) x.2 ∧ (g, Obj.cells (cellsOf x.2 ++ x.1.junk).toArray 42 (0, 0)) ∈ (mkB mk).blk := by
  obtain ⟨⟨p, cap, junk⟩, l⟩ := x
  obtain rfl : p = some g := hg
  have hin : (g, Obj.cells (cellsOf l ++ junk).toArray 42 (0, 0)) ∈ mk.reverse.flatMap fun p => (p.1.bx 42 (cellsOf p.2)).blk :=
    List.mem_flatMap.2 ⟨_, List.mem_reverse.2 hx, List.mem_cons_self ..⟩
  have hrow := RowAt.of_grp hp k hk hin
  refine ⟨.inr ⟨g, 0, rfl, RingAt.of_cells hrow.lt fun m u hu => hrow.get m u ?_⟩, hin⟩
  rw [List.getElem?_append_left (List.getElem?_eq_some_iff.1 hu).1]
  exact hu
/-- .. and made numbers. -/
theorem num_grp (hp : Hp W0 bxs W) (k : Nat) {mn : MadeN} (hk : nth bxs k = some (numB mn)) {x : Vec × List Int} (hx : x ∈ mn) {g : Nat} (hg : x.1.p = some g) {j : Nat} (hj : j < x.2.length) : RowAt W g (0 + j * 1) [.int .i64 (x.2.getD j 0)] := by
  obtain ⟨⟨p, cap, junk⟩, l⟩ := x
  obtain rfl : p = some g := hg
  have hin : (g, Obj.cells (ci l ++ junk).toArray 3 (0, 0)) ∈ mn.reverse.flatMap fun p => (p.1.bx 3 (ci p.2)).blk :=
    List.mem_flatMap.2 ⟨_, List.mem_reverse.2 hx, List.mem_cons_self ..⟩
  have hrow := RowAt.of_grp hp k hk hin
  refine ⟨hrow.lt, fun m u hu => ?_⟩
  have hm : m = 0 := by have := (List.getElem?_eq_some_iff.1 hu).1; simp at this; omega
  subst hm
  have h2 := hrow.get j u (by
    show (ci l ++ junk)[j]? = some u
    have hj' : j < l.length := hj
    rw [List.getElem?_append_left (by simpa using hj'), List.getElem?_map, List.getElem?_eq_getElem hj', ← hu]
    show some _ = some (Value.int .i64 (l.getD j 0))
    rw [List.getD_eq_getElem?_getD, List.getElem?_eq_getElem hj']; rfl)
  rw [Nat.mul_one, Nat.add_zero]
  exact h2
end
theorem mkB_perm {mk mk' : Made} (h : mk'.Perm mk) : (mkB mk').blk.Perm (mkB mk).blk :=
  ((List.reverse_perm mk').trans (h.trans (List.reverse_perm mk).symm)).flatMap_right _
theorem numB_perm {mn mn' : MadeN} (h : mn'.Perm mn) : (numB mn').blk.Perm (numB mn).blk :=
  ((List.reverse_perm mn').trans (h.trans (List.reverse_perm mn).symm)).flatMap_right _
section
variable {r : Option Nat} {n : Nat} {W0 : World} {N : Nat} {D : List Deferred} {ops : List Oper} {Q : Exit → Act → World → Prop} {o : Oper} {rest : List Oper} {env : Env} {bxs : List Bx}
/-- slices.SortFunc of all rings but the first (three rings at most). -/
theorem wl_sortP (k i : Nat) {c : Call} {f : Operand} {d g cV off m : Nat} {jV : List Value} {mp : MadeP}
    (hg : guardE ops N env o = some true) (hd : o.dst = some d) (ho : o.op = .call c) (hc : c.callee = .value f) (hf : evO N env f = some (.func (.func 93) #[] #[])) (ha : evArgs (evO N env) c.args.toList = some [.slice (some ⟨g, off, none⟩) (m - 1) (cV - 1), .func (.func 94) #[] #[]])
    (hk : nth bxs k = some ⟨g, 119, prCells mp ++ jV, true, none⟩) (hi : nth bxs i = some (mkB (mp.map (·.1)))) (hki : k ≠ i) (hm : m = 1 ∨ m = 2 ∨ m = 3) (hoff : m = 3 → off = 2) (hml : mp.length = m) (hok : ∀ p ∈ mp, p.1.1.p ≠ none ∧ p.2.1.p ≠ none ∧ 0 < p.1.2.length)
    (h : WL r n Tryz.prog N D ops Q rest ((d, .tuple #[]) :: env) (Hp W0 (bxs.set k ⟨g, 119, prCells (sort2M mp) ++ jV, true, none⟩))) : WL r n Tryz.prog N D ops Q (o :: rest) env (Hp W0 bxs) := by
  have same : sort2M mp = mp → m ≤ 2 → WL r n Tryz.prog N D ops Q (o :: rest) env (Hp W0 bxs) := fun e h2 => by
    rw [e] at h
    have e2 : bxs.set k ⟨g, 119, prCells mp ++ jV, true, none⟩ = bxs := by
      have h1 : bxs[k]? = some ⟨g, 119, prCells mp ++ jV, true, none⟩ := by rw [← nth_eq]; exact hk
      exact set_same_get h1
    rw [e2] at h
    exact wl_call1 (g := 93) (capt := []) hg hd ho hc hf ha (by kernel_rfl) (fun W _ => sortF1_gives W _ (m - 1) (cV - 1) (by omega)) h
  match mp, hml with
  | [x], hml => exact same rfl (by simp at hml; omega)
  | [x, y], hml => exact same rfl (by simp at hml; omega)
  | [], hml => simp at hml; omega
  | _ :: _ :: _ :: _ :: _, hml => simp at hml; omega
  | [x, y, z], hml =>
    have hm3 : m = 3 := by simp at hml; omega
    subst hm3
    obtain rfl := hoff rfl
    obtain ⟨⟨⟨py, cy, jy⟩, ly⟩, ⟨⟨qy, dy, ky⟩, oy⟩⟩ := y
    obtain ⟨⟨⟨pz, cz, jz⟩, lz⟩, ⟨⟨qz, dz, kz⟩, oz⟩⟩ := z
    obtain ⟨hy1, hy2, hy3⟩ := hok ((⟨py, cy, jy⟩, ly), (⟨qy, dy, ky⟩, oy)) (by simp)
    obtain ⟨hz1, hz2, hz3⟩ := hok ((⟨pz, cz, jz⟩, lz), (⟨qz, dz, kz⟩, oz)) (by simp)
    cases py with
    | none => exact absurd rfl hy1
    | some gy =>
    cases qy with
    | none => exact absurd rfl hy2
    | some ny =>
    cases pz with
    | none => exact absurd rfl hz1
    | some gz =>
    cases qz with
    | none => exact absurd rfl hz2
    | some nz =>
    have hk' : bxs[k]? = some ⟨g, 119, prV x ++ ([slv (some ⟨gy, 0, none⟩) ly.length cy, slv (some ⟨ny, 0, none⟩) oy.length dy, slv (some ⟨gz, 0, none⟩) lz.length cz, slv (some ⟨nz, 0, none⟩) oz.length dz] ++ jV), true, none⟩ := by rw [← nth_eq]; exact hk
    have hi' : bxs[i]? = some (mkB [x.1, (⟨some gy, cy, jy⟩, ly), (⟨some gz, cz, jz⟩, lz)]) := by rw [← nth_eq]; exact hi
    refine wl_callN (X := Unit) (val := fun _ => .tuple #[]) (Φ := fun _ => True) (capt := []) k (B := ⟨g, 119, prV x ++ ([slv (some ⟨gy, 0, none⟩) ly.length cy, slv (some ⟨ny, 0, none⟩) oy.length dy, slv (some ⟨gz, 0, none⟩) lz.length cz, slv (some ⟨nz, 0, none⟩) oz.length dz] ++ jV), true, none⟩) (L1 := []) (L2 := []) (b := g)
      (ob := .cells (prV x ++ ([slv (some ⟨gy, 0, none⟩) ly.length cy, slv (some ⟨ny, 0, none⟩) oy.length dy, slv (some ⟨gz, 0, none⟩) lz.length cz, slv (some ⟨nz, 0, none⟩) oz.length dz] ++ jV)).toArray 119 (0, 0))
      (fun _ => ⟨g, 119, prV x ++ (ord2 (cmpS (sd lz 0) (sd ly 0)) [slv (some ⟨gy, 0, none⟩) ly.length cy, slv (some ⟨ny, 0, none⟩) oy.length dy] [slv (some ⟨gz, 0, none⟩) lz.length cz, slv (some ⟨nz, 0, none⟩) oz.length dz] ++ jV), true, none⟩) (g' := fun _ => g)
      (o' := fun _ => .cells (prV x ++ (ord2 (cmpS (sd lz 0) (sd ly 0)) [slv (some ⟨gy, 0, none⟩) ly.length cy, slv (some ⟨ny, 0, none⟩) oy.length dy] [slv (some ⟨gz, 0, none⟩) lz.length cz, slv (some ⟨nz, 0, none⟩) oz.length dz] ++ jV)).toArray 119 (0, 0))
      hg hd ho hc hf ha (by kernel_rfl) (by rw [nth_eq]; exact hk') rfl (fun _ _ => rfl) (fun W hp => ?_) (fun _ _ => ?_)
    · obtain ⟨ry, my⟩ := ring_grp hp i hi (x := (⟨some gy, cy, jy⟩, ly)) (by simp) rfl
      obtain ⟨rz, mz⟩ := ring_grp hp i hi (x := (⟨some gz, cz, jz⟩, lz)) (by simp) rfl
      have ney : gy ≠ g := fun e => hp.own.apart k i _ _ hk' hi' hki _ (List.mem_cons_self ..) _ my e.symm
      have nez : gz ≠ g := fun e => hp.own.apart k i _ _ hk' hi' hki _ (List.mem_cons_self ..) _ mz e.symm
      refine sortF2_gives W g 2 (cV - 1) (prV x) jV (some ⟨gy, 0, none⟩) (some ⟨ny, 0, none⟩) (some ⟨gz, 0, none⟩) (some ⟨nz, 0, none⟩) ly.length oy.length lz.length oz.length cy dy cz dz _ rfl (hp.own.cell k _ hk' (g, _) (List.mem_cons_self ..)).1 fun W' hkp => ?_
      exact canon2_gives W' (some ⟨gz, 0, none⟩) (some ⟨gy, 0, none⟩) (some ⟨nz, 0, none⟩) (some ⟨ny, 0, none⟩) cz cy oz.length oy.length dz dy lz ly hz3 hy3 (ringP_keep rz hkp (fun b off e => by cases e; exact nez)) (ringP_keep ry hkp (fun b off e => by cases e; exact ney))
    · have e : prCells (sort2M [x, ((⟨some gy, cy, jy⟩, ly), (⟨some ny, dy, ky⟩, oy)), ((⟨some gz, cz, jz⟩, lz), (⟨some nz, dz, kz⟩, oz))]) ++ jV = prV x ++ (ord2 (cmpS (sd lz 0) (sd ly 0)) [slv (some ⟨gy, 0, none⟩) ly.length cy, slv (some ⟨ny, 0, none⟩) oy.length dy] [slv (some ⟨gz, 0, none⟩) lz.length cz, slv (some ⟨nz, 0, none⟩) oz.length dz] ++ jV) := by
        show prCells (if cmpS (sd lz 0) (sd ly 0) < 0 then _ else _) ++ jV = _
        unfold ord2
        by_cases hx : cmpS (sd lz 0) (sd ly 0) < 0
        · rw [if_pos hx, if_pos hx]; rfl
        · rw [if_neg hx, if_neg hx]; rfl
      rw [e] at h
      exact h
end
theorem repL_ci (m : Nat) : repL (Value.int .i64 0).cells.toList m = ci (List.replicate m 0) := by
  induction m with
  | zero => rfl
  | succ m ih =>
    show [Value.int .i64 0] ++ repL (Value.int .i64 0).cells.toList m = _
    rw [ih, List.replicate_succ]; rfl
/-! ### The new numbers -/
def fill : List Int → Nat → List Int → List Int
  | ns, _, [] => ns
  | ns, n, o :: os => fill (ns.set o.toNat (n : Int)) (n + 1) os
theorem fill_len : ∀ (os ns : List Int) (n : Nat), (fill ns n os).length = ns.length
  | [], _, _ => rfl
  | o :: os, ns, n => by
    show (fill (ns.set o.toNat (n : Int)) (n + 1) os).length = _
    rw [fill_len os, List.length_set]
theorem fill_snoc : ∀ (os ns : List Int) (n : Nat) (o : Int), fill ns n (os ++ [o]) = (fill ns n os).set o.toNat ((n + os.length : Nat) : Int)
  | [], _, _, _ => rfl
  | a :: os, ns, n, o => by
    show fill (ns.set a.toNat (n : Int)) (n + 1) (os ++ [o]) = (fill (ns.set a.toNat (n : Int)) (n + 1) os).set _ _
    rw [fill_snoc os, List.length_cons]
    congr 2; omega
theorem fill_other : ∀ (os ns : List Int) (n i : Nat), (∀ o ∈ os, o.toNat ≠ i) → (fill ns n os).getD i 0 = ns.getD i 0
  | [], _, _, _, _ => rfl
  | a :: os, ns, n, i, h => by
    show (fill (ns.set a.toNat (n : Int)) (n + 1) os).getD i 0 = _
    rw [fill_other os _ _ _ fun o ho => h o (List.mem_cons_of_mem _ ho), List.getD_eq_getElem?_getD, List.getElem?_set_ne (h a (List.mem_cons_self ..)), ← List.getD_eq_getElem?_getD]
theorem fill_at : ∀ (os ns : List Int) (n : Nat), (os.map Int.toNat).Nodup → (∀ o ∈ os, o.toNat < ns.length) → ∀ j o, os[j]? = some o → (fill ns n os).getD o.toNat 0 = ((n + j : Nat) : Int)
  | [], _, _, _, _, j, o, h => by simp at h
  | a :: os, ns, n, hd, hl, 0, o, h => by
    obtain rfl : a = o := by simpa using h
    obtain ⟨h1, h2⟩ := List.nodup_cons.1 hd
    show (fill (ns.set a.toNat (n : Int)) (n + 1) os).getD a.toNat 0 = _
    rw [fill_other os _ _ _ fun o ho e => h1 (List.mem_map.2 ⟨o, ho, e⟩), List.getD_eq_getElem?_getD, List.getElem?_set_self (hl a (List.mem_cons_self ..))]
    rfl
  | a :: os, ns, n, hd, hl, j + 1, o, h => by
    obtain ⟨h1, h2⟩ := List.nodup_cons.1 hd
    show (fill (ns.set a.toNat (n : Int)) (n + 1) os).getD o.toNat 0 = _
    rw [fill_at os _ _ h2 (fun o ho => by rw [List.length_set]; exact hl o (List.mem_cons_of_mem _ ho)) j o (by simpa using h)]
    congr 1; omega
def numsOf (rs : List (List Sd)) : List Int := fill (List.replicate (tot rs) 0) 0 (olds rs)
theorem numsOf_len (rs : List (List Sd)) : (numsOf rs).length = tot rs := by rw [numsOf, fill_len, List.length_replicate]
theorem olds_mem (rs : List (List Sd)) {o : Int} (h : o ∈ olds rs) : 0 ≤ o ∧ o < (tot rs : Nat) := by
  have h1 := (olds_perm rs).mem_iff.1 h
  unfold oldN at h1
  obtain ⟨i, hi, rfl⟩ := List.mem_map.1 h1
  have := List.mem_range.1 hi
  omega
theorem olds_len (rs : List (List Sd)) : (olds rs).length = tot rs := by rw [(olds_perm rs).length_eq, oldN_len]
theorem olds_nodup (rs : List (List Sd)) : ((olds rs).map Int.toNat).Nodup := by
  have h : ((oldN 0 (tot rs)).map Int.toNat).Nodup := by
    have e : (oldN 0 (tot rs)).map Int.toNat = List.range (tot rs) := by
      unfold oldN
      rw [List.map_map]
      conv => rhs; rw [← List.map_id (List.range (tot rs))]
      refine List.map_congr_left fun i _ => ?_
      show (((0 + i : Nat) : Int)).toNat = i
      omega
    rw [e]; exact List.nodup_range
  exact ((olds_perm rs).map _).nodup_iff.2 h
/-- The new number of an old one. -/
theorem numsOf_at {rs : List (List Sd)} {j : Nat} (hj : j < tot rs) : ∃ o : Nat, o < tot rs ∧ (olds rs)[j]? = some (o : Int) ∧ (numsOf rs).getD o 0 = (j : Int) := by
  have hl := olds_len rs
  have h1 : (olds rs)[j]? = some (olds rs)[j] := List.getElem?_eq_getElem (by omega)
  obtain ⟨h2, h3⟩ := olds_mem rs (List.mem_of_getElem? h1)
  refine ⟨(olds rs)[j].toNat, by omega, by rw [h1]; congr 1; omega, ?_⟩
  have := fill_at (olds rs) (List.replicate (tot rs) 0) 0 (olds_nodup rs) (fun o ho => by have := olds_mem rs ho; rw [List.length_replicate]; omega) j _ h1
  rw [Nat.zero_add] at this
  exact this
theorem numsOf_sur {rs : List (List Sd)} {o : Nat} (ho : o < tot rs) : ∃ j, j < tot rs ∧ (olds rs)[j]? = some (o : Int) ∧ (numsOf rs).getD o 0 = (j : Int) := by
  have hm : (o : Int) ∈ olds rs := (olds_perm rs).mem_iff.2 (List.mem_map.2 ⟨o, List.mem_range.2 ho, by show ((0 + o : Nat) : Int) = _; omega⟩)
  obtain ⟨j, hj, e⟩ := List.getElem_of_mem hm
  rw [olds_len] at hj
  obtain ⟨o', h1, h2, h3⟩ := numsOf_at hj
  have e2 : (olds rs)[j]? = some (o : Int) := by rw [List.getElem?_eq_getElem (by rw [olds_len]; exact hj), e]
  have e3 : o' = o := by rw [h2] at e2; have := Option.some.inj e2; omega
  subst e3
  exact ⟨j, hj, h2, h3⟩
end Go.Proofs.YtnpfkmbcejgnjaaGreatDoor
