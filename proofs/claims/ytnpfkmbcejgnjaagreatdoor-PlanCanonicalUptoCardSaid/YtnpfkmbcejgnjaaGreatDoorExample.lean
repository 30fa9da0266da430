/-
  The example plan; what awake gives.
-/
import Derived.Test.YtnpfkmbcejgnjaaGreatDoorAreaF
import Derived.Test.YtnpfkmbcejgnjaaGreatDoorMoved
namespace Go.Proofs.YtnpfkmbcejgnjaaGreatDoor
open Go Go.RowKit Go.Am Go.Lib
set_option maxRecDepth 10000
-- BOXES 5
section
variable {r : Option Nat} {n : Nat} {N : Nat} {D : List Deferred} {ops : List Oper} {Q : Exit → Act → World → Prop} {o : Oper} {rest : List Oper} {env : Env} {A : World → Prop}
theorem wl_arr {d : Nat} {a b : Int} (hg : guardE ops N env o = some true) (hd : o.dst = some d) (ho : o.op = .build 127 #[(0, .const (.int .i64 a)), (1, .const (.int .i64 b))])
    (h : WL r n Tryz.prog N D ops Q rest ((d, .agg #[.int .i64 a, .int .i64 b]) :: env) A) : WL r n Tryz.prog N D ops Q (o :: rest) env A :=
  wl_val hg hd (fun c e => by rw [ho] at e; cases e) (fun ρ W hρ _ => by
    have hz : (zeroValue 127).run Tryz.prog W = .ok (.agg #[.int .i64 0, .int .i64 0]) W := Tryz.hZ.get rfl W
    have e1 : ρ (.const (.int .i64 a)) = .int .i64 a := hρ _ _ rfl
    have e2 : ρ (.const (.int .i64 b)) = .int .i64 b := hρ _ _ rfl
    simp [execOp, ho, Instr.build, hz, run_underlying Tryz.underlying127, Tryz.sizeOf3, e1, e2, Instr.fill, Value.cells, List.zipIdx]) h
theorem wl_idxArr {d : Nat} {x : Operand} {k : Nat} {b off : Nat} (hg : guardE ops N env o = some true) (hd : o.dst = some d) (ho : o.op = .indexAddr 127 x (.const (.int .i64 (k : Nat)))) (hk : k < 2)
    (hx : evO N env x = some (.pointer (some ⟨b, off, none⟩))) (h : WL r n Tryz.prog N D ops Q rest ((d, .pointer (some ⟨b, off + k, none⟩)) :: env) A) : WL r n Tryz.prog N D ops Q (o :: rest) env A :=
  wl_val hg hd (fun c e => by rw [ho] at e; cases e) (fun ρ W hρ _ => by
    have e1 : ρ (.const (.int .i64 (k : Nat))) = .int .i64 (k : Nat) := hρ _ _ rfl
    simp [execOp, ho, Instr.indexAt, Instr.sureAddr, asIntOf, hρ _ _ hx, e1, run_underlying Tryz.underlying127, Tryz.sizeOf3, Addr.add_none]
    exact fun h => absurd h (by omega)) h
end
def exPts : List (Int × Int) := [(0, 0), (10, 0), (10, 4), (4, 4), (4, 8), (0, 8)]
def exSd (q : Int × Int) : Sd := ⟨q.1, q.2, 1, 1, false, 3, 0⟩
def exRing : List Sd := exPts.map exSd
def ptc (q : Int × Int) : List Value := [.int .i64 q.1, .int .i64 q.2]
theorem Own.blk_congr {n : Nat} {l l' : List Bx} {W : World} (h : Go.Am.Own n l W) (e : l'.map Bx.blk = l.map Bx.blk) : Go.Am.Own n l' W := by
  have key : ∀ {k : Nat} {B : Bx}, l'[k]? = some B → ∃ C, l[k]? = some C ∧ C.blk = B.blk := fun {k B} hk => by
    have h1 : (l'.map Bx.blk)[k]? = some B.blk := by rw [List.getElem?_map, hk]; rfl
    rw [e, List.getElem?_map] at h1
    cases hc : l[k]? with
    | none => rw [hc] at h1; cases h1
    | some C => rw [hc] at h1; exact ⟨C, rfl, Option.some.inj h1⟩
  refine ⟨fun k B hk p hp => ?_, fun k B hk => ?_, fun i j B C hi hj hne p hp q hq => ?_⟩
  · obtain ⟨C, h1, h2⟩ := key hk
    exact h.cell k C h1 p (h2 ▸ hp)
  · obtain ⟨C, h1, h2⟩ := key hk
    rw [← h2]; exact h.nd k C h1
  · obtain ⟨B', h1, h2⟩ := key hi
    obtain ⟨C', h3, h4⟩ := key hj
    exact h.apart i j B' C' h1 h3 hne p (h2 ▸ hp) q (h4 ▸ hq)
set_option maxHeartbeats 4000000 in
theorem example_gives (W : World) : CallsR Tryz.prog 47 #[] W (fun x : Vec × Made => .agg #[x.1.val 1]) (fun x => MadeOK x.2 [exRing] ∧ x.1.OK 1 1 (rowCells x.2)) (fun x => [x.1.bx 27 (rowCells x.2), mkB x.2]) := by
  refine calls_enter (args := []) Tryz.func47 rfl rfl rfl ?_
  refine zA ?_
  refine zB ?_
  (refine wl_allocZ Tryz.hZ rfl rfl rfl rfl ?_; intro)
  refine wl_nil ?_
  rename_i b0
  refine zE ?_
  refine zA ?_
  refine zB ?_
  refine wl_pure Tryz.hT rfl rfl rfl ?_
  refine wl_nil ?_
  refine zE ?_
  refine zA ?_
  refine zA ?_
  refine zB ?_
  refine wl_arr rfl rfl rfl ?_
  refine wl_arr rfl rfl rfl ?_
  refine wl_arr rfl rfl rfl ?_
  refine wl_arr rfl rfl rfl ?_
  refine wl_arr rfl rfl rfl ?_
  refine wl_arr rfl rfl rfl ?_
  (refine wl_buildRowZ Tryz.hZ Tryz.hT rfl rfl rfl rfl rfl rfl rfl rfl rfl rfl rfl ?_; intro)
  rename_i b10
  refine wl_pure Tryz.hT rfl rfl rfl ?_
  refine wl_pure Tryz.hT rfl rfl rfl ?_
  refine wl_nil ?_
  refine zE ?_
  refine zH ?_
  refine wc_newGone ?_
  refine wc_loop (X := Nat × Vec) (fun x => [(0, .pointer (some ⟨b0, 0, none⟩)), (1, x.2.val x.1), (10, slv (some ⟨b10, 0, none⟩) 6 6), (11, .int .i64 6), (12, .int .i64 (x.1 : Nat))]) (fun x => [⟨b0, 24, [.slice none 0 0], true, none⟩, ⟨b10, 127, exPts.flatMap ptc, true, none⟩, x.2.bx 42 (cellsOf (exRing.take x.1))])
    (fun x => x.1 ≤ 6 ∧ x.2.OK 7 x.1 (cellsOf (exRing.take x.1))) (fun x => 6 - x.1) (0, Vec.empty) ⟨Nat.zero_le _, Vec.OK.empty 7⟩ ⟨rfl, rfl, rfl, rfl, rfl, trivial⟩ [] rfl ?_
  rintro ⟨k, V⟩ ⟨hk0, hV0⟩
  have hk : k ≤ 6 := hk0
  have hV : V.OK 7 k (cellsOf (exRing.take k)) := hV0
  clear hk0 hV0
  refine zA ?_
  refine zB ?_
  refine wl_pure Tryz.hT rfl rfl rfl ?_
  refine wl_nil ?_
  refine zE ?_
  refine zA ?_
  refine wc_cond rfl (fun h => ?_) (fun h => ?_)
  · have hk : k < 6 := by simp at h; omega
    clear h
    obtain ⟨q, hq⟩ : ∃ q, exPts[k]? = some q := ⟨_, List.getElem?_eq_getElem (show k < exPts.length from hk)⟩
    have ht : exRing.take (k + 1) = exRing.take k ++ [exSd q] := by
      rw [List.take_add_one]
      congr 1
      show (exPts.map exSd)[k]?.toList = _
      rw [List.getElem?_map, hq]; rfl
    have hc : cellsOf (exRing.take (k + 1)) = cellsOf (exRing.take k) ++ (exSd q).cells := by rw [ht, cellsOf_append]; simp [cellsOf]
    refine zI ?_
    refine zE ?_
    refine zA ?_
    refine zH ?_
    refine zA ?_
    refine zB ?_
    refine wl_indexAddr Tryz.hT rfl rfl rfl rfl rfl rfl rfl (by omega) (by omega) ?_
    refine wl_load rfl rfl rfl rfl (fun W hp => RowAt.load 0 Tryz.hT rfl ((fun W hp => Vec.rowAt (f := ptc) (n := 2) (cap := 6) (junk := []) (fun _ => rfl) hp 1 rfl hq) W hp) rfl) ?_
    (refine wl_allocZ Tryz.hZ rfl rfl rfl rfl ?_; intro)
    refine wl_storeBx 3 Tryz.hT rfl rfl rfl rfl rfl rfl rfl rfl rfl rfl rfl ?_
    refine wl_nil ?_
    rename_i b3
    refine zE ?_
    refine zB ?_
    refine wl_pure Tryz.hT rfl rfl rfl ?_
    refine wl_idxArr (k := 0) rfl rfl rfl (by decide) rfl ?_
    refine wl_loadBx 3 Tryz.hT rfl rfl rfl rfl rfl rfl rfl rfl ?_
    refine wl_idxArr (k := 1) rfl rfl rfl (by decide) rfl ?_
    refine wl_loadBx 3 Tryz.hT rfl rfl rfl rfl rfl rfl rfl rfl ?_
    refine wl_buildZ Tryz.hZ Tryz.hT rfl rfl rfl rfl rfl rfl rfl rfl ?_
    (refine wl_buildRowZ Tryz.hZ Tryz.hT rfl rfl rfl rfl rfl rfl rfl rfl rfl rfl rfl ?_; intro)
    refine wl_appendTo (V := V) (len := k) (xs := cellsOf (exRing.take k)) 2 4 Tryz.vec27 (k + 1) (cellsOf (exRing.take (k + 1))) rfl rfl rfl rfl rfl rfl rfl rfl rfl rfl rfl hV rfl rfl rfl (by rw [hc]; rfl) (by simp only [maxLen]; omega) (by omega) rfl ?_
    intro g c1 j1 hV1
    refine wl_pure Tryz.hT rfl rfl rfl ?_
    refine wl_nil ?_
    refine zN ?_
    refine zE ?_
    refine zB ?_
    refine wl_pure Tryz.hT rfl rfl rfl ?_
    refine wl_pure Tryz.hT rfl rfl rfl ?_
    refine wl_nil ?_
    exact ne_loop (k + 1, ⟨some g, c1, j1⟩) ⟨hk, hV1⟩ (by show 6 - (k + 1) < 6 - k; omega) ⟨rfl, rfl, rfl, rfl, congrArg (fun z => some (Value.int .i64 z)) (wrap_id (x := (k : Int) + 1) (by omega) (by omega)), trivial⟩ [_, _] rfl
  · have e : k = 6 := by simp at h; omega
    subst e
    obtain ⟨p, c, j⟩ := V
    cases p with
    | none => exact absurd (hV.nil rfl) (by decide)
    | some g =>
    refine zJ ?_
    refine zK ?_
    refine zK ?_
    refine zL ?_
    refine zE ?_
    refine zA ?_
    refine zB ?_
    refine wl_pure Tryz.hT rfl rfl rfl ?_
    (refine wl_buildRowZ Tryz.hZ Tryz.hT rfl rfl rfl rfl rfl rfl rfl rfl rfl rfl rfl ?_; intro)
    refine wl_buildZ Tryz.hZ Tryz.hT rfl rfl rfl rfl rfl rfl rfl rfl ?_
    refine wl_storeBx 0 Tryz.hT rfl rfl rfl rfl rfl rfl rfl rfl rfl rfl rfl ?_
    refine wl_nil ?_
    rename_i b26
    refine zE ?_
    refine zO ?_
    have hV' : (⟨some g, c, j⟩ : Vec).OK 7 exRing.length (cellsOf exRing) := hV
    refine ne_ret1 Tryz.hT rfl (.cell 0 rfl rfl rfl rfl rfl) ((⟨some b26, 1, []⟩ : Vec), [((⟨some g, c, j⟩ : Vec), exRing)]) rfl ⟨⟨rfl, fun p hp => ?_⟩, ⟨rfl, (fun h => by cases h), fun _ => ⟨Nat.le_refl _, by show 1 ≤ maxLen; simp [maxLen], rfl⟩⟩⟩ fun W hp => Own.blk_congr (hp.pick [3, 2] (by decide) rfl).own rfl
    obtain rfl := List.mem_singleton.1 hp
    exact hV'
end Go.Proofs.YtnpfkmbcejgnjaaGreatDoor
