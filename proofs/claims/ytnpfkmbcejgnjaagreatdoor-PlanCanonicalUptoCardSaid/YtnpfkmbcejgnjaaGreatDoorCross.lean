/-
  Have two sides a common point that they must not have.
-/
import Derived.Test.YtnpfkmbcejgnjaaGreatDoorBox
import Derived.Test.YtnpfkmbcejgnjaaGreatDoorConcat
import Derived.Test.YtnpfkmbcejgnjaaGreatDoorAo
namespace Go.Proofs.YtnpfkmbcejgnjaaGreatDoor
open Go Go.RowKit Go.Am
set_option maxRecDepth 10000
-- BOXES 12
def lox (t u : Sd) : Int := if u.x < t.x then u.x else t.x
def loy (t u : Sd) : Int := if u.y < t.y then u.y else t.y
def hix (t u : Sd) : Int := if u.x > t.x then u.x else t.x
def hiy (t u : Sd) : Int := if u.y > t.y then u.y else t.y
def bsd (rs : List (List Sd)) (q : Nat × Nat) : Sd := sd (rg rs q.1) q.2
def esd (rs : List (List Sd)) (q : Nat × Nat) : Sd := sd (rg rs q.1) (nxt (rg rs q.1).length q.2)
def bcells (rs : List (List Sd)) (q : Nat × Nat) : List Value := [.int .i64 (lox (bsd rs q) (esd rs q)), .int .i64 (loy (bsd rs q) (esd rs q)), .int .i64 (hix (bsd rs q) (esd rs q)), .int .i64 (hiy (bsd rs q) (esd rs q))]
def pcells (q : Nat × Nat) : List Value := [.int .i64 (q.1 : Nat), .int .i64 (q.2 : Nat)]
def prow (k j : Nat) : List (Nat × Nat) := (List.range j).map fun i => (k, i)
def plsUp (rs : List (List Sd)) : Nat → List (Nat × Nat)
  | 0 => []
  | k + 1 => plsUp rs k ++ prow k (rg rs k).length
theorem prow_succ (k j : Nat) : prow k (j + 1) = prow k j ++ [(k, j)] := by simp [prow, List.range_succ]
theorem prow_len (k j : Nat) : (prow k j).length = j := by simp [prow]
theorem plsUp_len (rs : List (List Sd)) : ∀ k, k ≤ rs.length → (plsUp rs k).length = tot (rs.take k)
  | 0, _ => rfl
  | k + 1, h => by
    rw [tot_take_succ (by omega)]
    show (plsUp rs k ++ prow k _).length = _
    rw [List.length_append, plsUp_len rs k (by omega), prow_len]
theorem plsUp_mem (rs : List (List Sd)) : ∀ k, ∀ q ∈ plsUp rs k, q.1 < k ∧ q.2 < (rg rs q.1).length
  | 0, q, h => by cases h
  | k + 1, q, h => by
    rcases List.mem_append.1 h with h | h
    · have := plsUp_mem rs k q h
      exact ⟨by omega, this.2⟩
    · obtain ⟨i, hi, rfl⟩ := List.mem_map.1 h
      exact ⟨Nat.lt_succ_self k, List.mem_range.1 hi⟩
def nbB (n : Nat) (q q' : Nat × Nat) : Bool := (q.1 == q'.1) && (((q.2 : Int) - q'.2 == 1) || ((q.2 : Int) - q'.2 == (n : Int) - 1))
def meetB (t u t' u' : Sd) : Bool := decide (lox t u ≤ hix t' u') && decide (lox t' u' ≤ hix t u) && decide (loy t u ≤ hiy t' u') && decide (loy t' u' ≤ hiy t u)
def crossP (rs : List (List Sd)) (q q' : Nat × Nat) : Bool := !nbB (rg rs q.1).length q q' && meetB (bsd rs q) (esd rs q) (bsd rs q') (esd rs q')
def pl (rs : List (List Sd)) (i : Nat) : Nat × Nat := (plsUp rs rs.length).getD i (0, 0)
def crs (rs : List (List Sd)) : Bool := (List.range (tot rs)).any fun i => (List.range i).any fun k => crossP rs (pl rs i) (pl rs k)
/-- Rows of cells, one behind the other. -/
theorem flat_get {α : Type} (f : α → List Value) (n : Nat) (hf : ∀ x, (f x).length = n) : ∀ (l : List α) (i : Nat) (x : α), l[i]? = some x → ∀ (j : Nat) (u : Value), (f x)[j]? = some u → (l.flatMap f)[i * n + j]? = some u
  | [], i, x, h, _, _, _ => by simp at h
  | y :: l, 0, x, h, j, u, hu => by
    obtain rfl : y = x := by simpa using h
    rw [List.flatMap_cons, Nat.zero_mul, Nat.zero_add, List.getElem?_append_left (List.getElem?_eq_some_iff.1 hu).1]
    exact hu
  | y :: l, i + 1, x, h, j, u, hu => by
    rw [List.flatMap_cons, List.getElem?_append_right (by rw [hf]; rw [Nat.add_mul]; omega), hf]
    rw [show (i + 1) * n + j - n = i * n + j by rw [Nat.add_mul]; omega]
    exact flat_get f n hf l i x (by simpa using h) j u hu
theorem Vec.rowAt {α : Type} {f : α → List Value} {n : Nat} (hf : ∀ x, (f x).length = n) {l : List α} {g cap : Nat} {junk : List Value} {e : TypeId} {W0 W : World} {bxs : List Bx} (hp : Hp W0 bxs W) (k : Nat) (hk : nth bxs k = some ((⟨some g, cap, junk⟩ : Vec).bx e (l.flatMap f))) {i : Nat} {x : α} (hi : l[i]? = some x) :
    RowAt W g (0 + i * n) (f x) := by
  have h := RowAt.of_bx hp k hk rfl
  refine ⟨h.lt, fun j u hu => ?_⟩
  have h1 := flat_get f n hf l i x hi j u hu
  have := h.get (i * n + j) u (by
    show (l.flatMap f ++ junk)[i * n + j]? = some u
    rw [List.getElem?_append_left (List.getElem?_eq_some_iff.1 h1).1]
    exact h1)
  rw [Nat.zero_add] at this ⊢
  exact this
theorem Vec.val_eq {V : Vec} {size n : Nat} {xs : List Value} (h : V.OK size n xs) : V.val n = .slice (V.p.map fun g => ⟨g, 0, none⟩) n (match V.p with | none => 0 | some _ => V.cap) := by
  obtain ⟨p, cap, junk⟩ := V
  cases p with
  | none => have := h.nil rfl; subst this; rfl
  | some g => rfl
theorem any_range_true {n : Nat} {f : Nat → Bool} {k : Nat} (hk : k < n) (h : f k = true) : (List.range n).any f = true := List.any_eq_true.2 ⟨k, List.mem_range.2 hk, h⟩
theorem any_range_false {n : Nat} {f : Nat → Bool} (h : ∀ k, k < n → f k = false) : (List.range n).any f = false := Bool.eq_false_iff.2 fun h2 => by
  obtain ⟨k, hk, h3⟩ := List.any_eq_true.1 h2
  rw [h k (List.mem_range.1 hk)] at h3; cases h3
set_option maxHeartbeats 8000000 in
theorem crossed_gives (W : World) (p : Option Addr) (cap : Nat) (rs : List (List Sd)) (hn : rs.length < 4611686018427387904) (hT : tot rs < 1099511627776) (hl : ∀ l ∈ rs, l.length < 4611686018427387904) (hR : RingsP W p rs) :
    CallsR Tryz.prog 61 #[slv p rs.length cap] W (fun _ : Unit => .bool (crs rs)) (fun _ => True) (fun _ => []) := by
  refine calls_enter (args := [slv p rs.length cap]) Tryz.func61 rfl rfl rfl ?_
  refine zA ?_
  refine zB ?_
  refine wl_pure Tryz.hT rfl rfl rfl ?_
  refine wl_nil ?_
  refine zE ?_
  refine zA ?_
  refine zB ?_
  (refine wl_allocZ Tryz.hZ rfl rfl rfl rfl ?_; intro)
  refine wl_nil ?_
  rename_i b3
  refine zE ?_
  refine zA ?_
  refine zB ?_
  (refine wl_allocZ Tryz.hZ rfl rfl rfl rfl ?_; intro)
  refine wl_nil ?_
  rename_i b4
  refine zE ?_
  refine zA ?_
  refine zA ?_
  refine zB ?_
  refine wl_pure Tryz.hT rfl rfl rfl ?_
  refine wl_pure Tryz.hT rfl rfl rfl ?_
  refine wl_pure Tryz.hT rfl rfl rfl ?_
  refine wl_nil ?_
  refine zE ?_
  refine zH ?_
  refine wc_newGone ?_
  refine wc_newGone ?_
  refine wc_newBag ?_
  refine wc_loopD (X := Nat × Vec × Vec × List Nat) (fun x => x.2.2.2.map dmark) (fun x => [(0, slv p rs.length cap), (3, .pointer (some ⟨b3, 0, none⟩)), (4, .pointer (some ⟨b4, 0, none⟩)), (14, slv p rs.length cap), (15, .int .i64 (rs.length : Nat)), (16, .int .i64 (x.1 : Nat))])
    (fun x => [⟨b3, 138, [x.2.1.val (plsUp rs x.1).length], true, none⟩, ⟨b4, 139, [x.2.2.1.val (plsUp rs x.1).length], true, none⟩, x.2.1.bx 141 ((plsUp rs x.1).flatMap (bcells rs)), x.2.2.1.bx 144 ((plsUp rs x.1).flatMap pcells), bag x.2.2.2])
    (fun x => x.1 ≤ rs.length ∧ x.2.1.OK 4 (plsUp rs x.1).length ((plsUp rs x.1).flatMap (bcells rs)) ∧ x.2.2.1.OK 2 (plsUp rs x.1).length ((plsUp rs x.1).flatMap pcells)) (fun x => rs.length - x.1) (0, Vec.empty, Vec.empty, [])
    ⟨Nat.zero_le _, Vec.OK.empty 4, Vec.OK.empty 2⟩ rfl ⟨rfl, rfl, rfl, rfl, rfl, rfl, trivial⟩ [] rfl ?_
  rintro ⟨k, V1, V2, ds⟩ ⟨hk0, hV10, hV20⟩
  have hk : k ≤ rs.length := hk0
  have hV1 : V1.OK 4 (plsUp rs k).length ((plsUp rs k).flatMap (bcells rs)) := hV10
  have hV2 : V2.OK 2 (plsUp rs k).length ((plsUp rs k).flatMap pcells) := hV20
  clear hk0 hV10 hV20
  refine zA ?_
  refine zB ?_
  refine wl_pure Tryz.hT rfl rfl rfl ?_
  refine wl_nil ?_
  refine zE ?_
  refine zA ?_
  refine wc_cond rfl (fun h => ?_) (fun h => ?_)
  · have hk : k < rs.length := by simp at h; omega
    clear h
    obtain ⟨b', off, rfl, hrow⟩ := hR.row hk
    obtain ⟨q, cap2, hq1, hq2⟩ := hrow k hk
    have hlk : (rg rs k).length < 4611686018427387904 := hl _ (List.mem_of_getElem? (rg_get hk))
    refine zI ?_
    refine zE ?_
    refine zA ?_
    refine zH ?_
    refine zA ?_
    refine zB ?_
    refine wl_pure Tryz.hT rfl rfl rfl ?_
    refine wl_indexAddr Tryz.hT rfl rfl rfl rfl rfl rfl rfl (by omega) (by omega) ?_
    refine wl_load rfl rfl rfl rfl (fun W hp => RowAt.load 0 Tryz.hT rfl ((fun W hp => hq1.hp hp) W hp) rfl) ?_
    (refine wl_allocZ Tryz.hZ rfl rfl rfl rfl ?_; intro)
    rename_i b5
    refine wl_storeBx 5 Tryz.hT rfl rfl rfl rfl rfl rfl rfl rfl rfl rfl rfl ?_
    refine wl_pure Tryz.hT rfl rfl rfl ?_
    refine wl_nil ?_
    refine zE ?_
    refine zA ?_
    refine zB ?_
    refine wl_pure Tryz.hT rfl rfl rfl ?_
    refine wl_call (X := Nat) rfl rfl rfl rfl rfl rfl (by kernel_rfl) (fun W _ => sides_gives q (rg rs k).length cap2 W) ?_
    intro b _
    refine wl_nil ?_
    refine zE ?_
    refine zH ?_
    refine wc_range (X := Vec × Vec × Nat) (fun x => [⟨b3, 138, [x.1.val (plsUp rs k ++ prow k x.2.2).length], true, none⟩, ⟨b4, 139, [x.2.1.val (plsUp rs k ++ prow k x.2.2).length], true, none⟩, x.1.bx 141 ((plsUp rs k ++ prow k x.2.2).flatMap (bcells rs)), x.2.1.bx 144 ((plsUp rs k ++ prow k x.2.2).flatMap pcells), bag ds, ⟨b5, 3, [.int .i64 (k : Nat)], true, none⟩, ⟨b, 27, [slv q (rg rs k).length cap2], true, none⟩])
      (fun j x => x.2.2 = j ∧ x.1.OK 4 (plsUp rs k ++ prow k x.2.2).length ((plsUp rs k ++ prow k x.2.2).flatMap (bcells rs)) ∧ x.2.1.OK 2 (plsUp rs k ++ prow k x.2.2).length ((plsUp rs k ++ prow k x.2.2).flatMap pcells)) (fun _ _ => False) (V1, V2, 0) rfl (by kernel_rfl) (sides_iter b q cap2 (rg rs k) hlk) (fun _ => rfl)
      ⟨rfl, by show V1.OK 4 (plsUp rs k ++ prow k 0).length _; rw [show plsUp rs k ++ prow k 0 = plsUp rs k by simp [prow]]; exact hV1, by show V2.OK 2 (plsUp rs k ++ prow k 0).length _; rw [show plsUp rs k ++ prow k 0 = plsUp rs k by simp [prow]]; exact hV2⟩ []
      (by show _ = _ ++ []; rw [show plsUp rs k ++ prow k (V1, V2, 0).2.2 = plsUp rs k by simp [prow]]; rfl) (fun j x W _ hp => SidesNeed.mk' hq2 hp 6 rfl) ?_ ?_ (fun _ _ _ _ _ h => h.elim)
    · rintro j' ⟨U1, U2, j⟩ d L rec hj ⟨e1, hU1, hU2⟩ hrec
      obtain rfl : j = j' := e1
      have hU1 : U1.OK 4 (plsUp rs k ++ prow k j).length ((plsUp rs k ++ prow k j).flatMap (bcells rs)) := hU1
      have hU2 : U2.OK 2 (plsUp rs k ++ prow k j).length ((plsUp rs k ++ prow k j).flatMap pcells) := hU2
      have hlen : (plsUp rs k ++ prow k (j + 1)).length ≤ tot rs := by
        rw [List.length_append, prow_len, plsUp_len rs k (by omega)]
        have h1 := tot_take_succ hk
        have h2 := tot_take_le rs (k + 1)
        omega
      have hlen1 : (plsUp rs k ++ prow k (j + 1)).length = (plsUp rs k ++ prow k j).length + 1 := by
        simp only [List.length_append, prow_len]; omega
      have es : plsUp rs k ++ prow k (j + 1) = (plsUp rs k ++ prow k j) ++ [(k, j)] := by rw [prow_succ, List.append_assoc]
      have eb1 : (plsUp rs k ++ prow k (j + 1)).flatMap (bcells rs) = (plsUp rs k ++ prow k j).flatMap (bcells rs) ++ bcells rs (k, j) := by rw [es, List.flatMap_append]; simp
      have eb2 : (plsUp rs k ++ prow k (j + 1)).flatMap pcells = (plsUp rs k ++ prow k j).flatMap pcells ++ pcells (k, j) := by rw [es, List.flatMap_append]; simp
      refine zA ?_
      refine zB ?_
      refine wl_pure Tryz.hT rfl rfl rfl ?_
      refine wl_nil ?_
      refine zE ?_
      refine zB ?_
      (refine wl_allocZ Tryz.hZ rfl rfl rfl rfl ?_; intro)
      refine wl_storeBx 9 Tryz.hT rfl rfl rfl rfl rfl rfl rfl rfl rfl rfl rfl ?_
      refine wl_nil ?_
      rename_i b8
      refine ne_begin 8 hrec rfl ?_
      refine wc_block ?_
      refine wc_lateX (X := {x : Vec × Vec // x.1.OK 4 (plsUp rs k ++ prow k (j + 1)).length ((plsUp rs k ++ prow k (j + 1)).flatMap (bcells rs)) ∧ x.2.OK 2 (plsUp rs k ++ prow k (j + 1)).length ((plsUp rs k ++ prow k (j + 1)).flatMap pcells)}) (fun _ => [(3, .pointer (some ⟨b3, 0, none⟩)), (4, .pointer (some ⟨b4, 0, none⟩))])
        (fun x => [⟨b3, 138, [x.1.1.val (plsUp rs k ++ prow k (j + 1)).length], true, none⟩, ⟨b4, 139, [x.1.2.val (plsUp rs k ++ prow k (j + 1)).length], true, none⟩, x.1.1.bx 141 ((plsUp rs k ++ prow k (j + 1)).flatMap (bcells rs)), x.1.2.bx 144 ((plsUp rs k ++ prow k (j + 1)).flatMap pcells), bag ds, ⟨b5, 3, [.int .i64 (k : Nat)], true, none⟩, ⟨b, 27, [slv q (rg rs k).length cap2], true, none⟩, rawD d, rawL L rec .busy none]) 6 [⟨b3, 138, [U1.val (plsUp rs k ++ prow k j).length], true, none⟩, ⟨b4, 139, [U2.val (plsUp rs k ++ prow k j).length], true, none⟩, gone, gone, bag ds, ⟨b5, 3, [.int .i64 (k : Nat)], true, none⟩, ⟨b, 27, [slv q (rg rs k).length cap2], true, none⟩, rawD d, rawL L rec .busy none, ⟨b8, 72, (arVal (sd (rg rs k) (prv (rg rs k).length j)) (sd (rg rs k) j) (sd (rg rs k) (nxt (rg rs k).length j))).cells.toList, true, none⟩] Tryz.mixed (by kernel_rfl) ?_ ?_
      · refine wq_loadBx 0 Tryz.hT rfl rfl rfl rfl rfl rfl rfl rfl ?_
        refine wq_loadBx 9 Tryz.hT rfl rfl rfl rfl rfl rfl rfl rfl ?_
        refine wq_call1 rfl rfl rfl rfl rfl rfl (by kernel_rfl) (fun W _ => (boxOf_gives ..)) ?_
        refine wq_loadBx 1 Tryz.hT rfl rfl rfl rfl rfl rfl rfl rfl ?_
        refine wq_loadBx 5 Tryz.hT rfl rfl rfl rfl rfl rfl rfl rfl ?_
        refine wq_pure Tryz.hT rfl rfl rfl ?_
        refine wq_buildZ Tryz.hZ Tryz.hT rfl rfl rfl rfl rfl rfl rfl rfl ?_
        refine wq_wt ?_
        refine wt_step rfl rfl (by ((repeat (first | refine Weak.same ?_ | refine Weak.off rfl ?_)); exact trivial)) ?_
        refine RS.cons ?_ (RS.cons ?_ (RS.nil))
        · (refine wl_buildRowZ Tryz.hZ Tryz.hT rfl rfl rfl rfl rfl rfl rfl rfl rfl rfl rfl ?_; intro)
          refine wl_nil ?_
          refine ne_wt ?_
          refine wt_step rfl rfl (by ((repeat (first | refine Weak.same ?_ | refine Weak.off rfl ?_)); exact trivial)) ?_
          refine RS.cons ?_ (RS.cons ?_ (RS.nil))
          · (first | refine wl_appendTo 2 10 Tryz.vec138 (plsUp rs k ++ prow k (j + 1)).length ((plsUp rs k ++ prow k (j + 1)).flatMap (bcells rs)) rfl rfl rfl rfl rfl rfl rfl rfl rfl rfl rfl hU1 rfl rfl hlen1.symm (by rw [eb1]; rfl) (by simp only [maxLen]; omega) (by omega) rfl ?_ | refine wl_appendTo 2 11 Tryz.vec138 (plsUp rs k ++ prow k (j + 1)).length ((plsUp rs k ++ prow k (j + 1)).flatMap (bcells rs)) rfl rfl rfl rfl rfl rfl rfl rfl rfl rfl rfl hU1 rfl rfl hlen1.symm (by rw [eb1]; rfl) (by simp only [maxLen]; omega) (by omega) rfl ?_); intro g1 c1 j1 hU1'
            refine wl_nil ?_
            refine ne_wt ?_
            refine wt_step rfl rfl (by ((repeat (first | refine Weak.same ?_ | refine Weak.off rfl ?_)); exact trivial)) ?_
            refine RS.cons ?_ (RS.nil)
            (refine wl_buildRowZ Tryz.hZ Tryz.hT rfl rfl rfl rfl rfl rfl rfl rfl rfl rfl rfl ?_; intro)
            refine wl_nil ?_
            refine ne_wt ?_
            refine wt_step rfl rfl (by ((repeat (first | refine Weak.same ?_ | refine Weak.off rfl ?_)); exact trivial)) ?_
            refine RS.cons ?_ (RS.nil)
            (first | refine wl_appendTo 3 10 Tryz.vec139 (plsUp rs k ++ prow k (j + 1)).length ((plsUp rs k ++ prow k (j + 1)).flatMap pcells) rfl rfl rfl rfl rfl rfl rfl rfl rfl rfl rfl hU2 rfl rfl hlen1.symm (by rw [eb2]; rfl) (by simp only [maxLen]; omega) (by omega) rfl ?_ | refine wl_appendTo 3 11 Tryz.vec139 (plsUp rs k ++ prow k (j + 1)).length ((plsUp rs k ++ prow k (j + 1)).flatMap pcells) rfl rfl rfl rfl rfl rfl rfl rfl rfl rfl rfl hU2 rfl rfl hlen1.symm (by rw [eb2]; rfl) (by simp only [maxLen]; omega) (by omega) rfl ?_); intro g2 c2 j2 hU2'
            refine wl_nil ?_
            refine ne_wt ?_
            refine wt_step rfl rfl (by ((repeat (first | refine Weak.same ?_ | refine Weak.off rfl ?_)); exact trivial)) ?_
            refine RS.cons ?_ (RS.nil)
            refine wl_storeBx 0 Tryz.hT rfl rfl rfl rfl rfl rfl rfl rfl rfl rfl rfl ?_
            refine wl_nil ?_
            refine ne_wt ?_
            refine wt_stepF rfl rfl (by kernel_rfl) ?_
            refine RS.cons ?_ (RS.nil)
            refine wl_storeBx 1 Tryz.hT rfl rfl rfl rfl rfl rfl rfl rfl rfl rfl rfl ?_
            refine wl_nil ?_
            refine ne_wt ?_
            refine wt_doneF rfl (by kernel_rfl) ?_
            exact ne_late ⟨(⟨some g1, c1, j1⟩, ⟨some g2, c2, j2⟩), hU1', hU2'⟩ ⟨rfl, rfl, trivial⟩ [0, 1, 2, 3, 4, 5, 6, 7, 8] (by decide) rfl
          · (refine wl_buildRowZ Tryz.hZ Tryz.hT rfl rfl rfl rfl rfl rfl rfl rfl rfl rfl rfl ?_; intro)
            refine wl_nil ?_
            refine ne_wt ?_
            refine wt_step rfl rfl (by ((repeat (first | refine Weak.same ?_ | refine Weak.off rfl ?_)); exact trivial)) ?_
            refine RS.cons ?_ (RS.nil)
            (first | refine wl_appendTo 2 10 Tryz.vec138 (plsUp rs k ++ prow k (j + 1)).length ((plsUp rs k ++ prow k (j + 1)).flatMap (bcells rs)) rfl rfl rfl rfl rfl rfl rfl rfl rfl rfl rfl hU1 rfl rfl hlen1.symm (by rw [eb1]; rfl) (by simp only [maxLen]; omega) (by omega) rfl ?_ | refine wl_appendTo 2 11 Tryz.vec138 (plsUp rs k ++ prow k (j + 1)).length ((plsUp rs k ++ prow k (j + 1)).flatMap (bcells rs)) rfl rfl rfl rfl rfl rfl rfl rfl rfl rfl rfl hU1 rfl rfl hlen1.symm (by rw [eb1]; rfl) (by simp only [maxLen]; omega) (by omega) rfl ?_); intro g1 c1 j1 hU1'
            refine wl_nil ?_
            refine ne_wt ?_
            refine wt_step rfl rfl (by ((repeat (first | refine Weak.same ?_ | refine Weak.off rfl ?_)); exact trivial)) ?_
            refine RS.cons ?_ (RS.nil)
            (first | refine wl_appendTo 3 10 Tryz.vec139 (plsUp rs k ++ prow k (j + 1)).length ((plsUp rs k ++ prow k (j + 1)).flatMap pcells) rfl rfl rfl rfl rfl rfl rfl rfl rfl rfl rfl hU2 rfl rfl hlen1.symm (by rw [eb2]; rfl) (by simp only [maxLen]; omega) (by omega) rfl ?_ | refine wl_appendTo 3 11 Tryz.vec139 (plsUp rs k ++ prow k (j + 1)).length ((plsUp rs k ++ prow k (j + 1)).flatMap pcells) rfl rfl rfl rfl rfl rfl rfl rfl rfl rfl rfl hU2 rfl rfl hlen1.symm (by rw [eb2]; rfl) (by simp only [maxLen]; omega) (by omega) rfl ?_); intro g2 c2 j2 hU2'
            refine wl_nil ?_
            refine ne_wt ?_
            refine wt_step rfl rfl (by ((repeat (first | refine Weak.same ?_ | refine Weak.off rfl ?_)); exact trivial)) ?_
            refine RS.cons ?_ (RS.nil)
            refine wl_storeBx 0 Tryz.hT rfl rfl rfl rfl rfl rfl rfl rfl rfl rfl rfl ?_
            refine wl_nil ?_
            refine ne_wt ?_
            refine wt_stepF rfl rfl (by kernel_rfl) ?_
            refine RS.cons ?_ (RS.nil)
            refine wl_storeBx 1 Tryz.hT rfl rfl rfl rfl rfl rfl rfl rfl rfl rfl rfl ?_
            refine wl_nil ?_
            refine ne_wt ?_
            refine wt_doneF rfl (by kernel_rfl) ?_
            exact ne_late ⟨(⟨some g1, c1, j1⟩, ⟨some g2, c2, j2⟩), hU1', hU2'⟩ ⟨rfl, rfl, trivial⟩ [0, 1, 2, 3, 4, 5, 6, 7, 8] (by decide) rfl
        · (refine wl_buildRowZ Tryz.hZ Tryz.hT rfl rfl rfl rfl rfl rfl rfl rfl rfl rfl rfl ?_; intro)
          refine wl_nil ?_
          refine ne_wt ?_
          refine wt_step rfl rfl (by ((repeat (first | refine Weak.same ?_ | refine Weak.off rfl ?_)); exact trivial)) ?_
          refine RS.cons ?_ (RS.nil)
          (refine wl_buildRowZ Tryz.hZ Tryz.hT rfl rfl rfl rfl rfl rfl rfl rfl rfl rfl rfl ?_; intro)
          refine wl_nil ?_
          refine ne_wt ?_
          refine wt_step rfl rfl (by ((repeat (first | refine Weak.same ?_ | refine Weak.off rfl ?_)); exact trivial)) ?_
          refine RS.cons ?_ (RS.nil)
          (first | refine wl_appendTo 2 10 Tryz.vec138 (plsUp rs k ++ prow k (j + 1)).length ((plsUp rs k ++ prow k (j + 1)).flatMap (bcells rs)) rfl rfl rfl rfl rfl rfl rfl rfl rfl rfl rfl hU1 rfl rfl hlen1.symm (by rw [eb1]; rfl) (by simp only [maxLen]; omega) (by omega) rfl ?_ | refine wl_appendTo 2 11 Tryz.vec138 (plsUp rs k ++ prow k (j + 1)).length ((plsUp rs k ++ prow k (j + 1)).flatMap (bcells rs)) rfl rfl rfl rfl rfl rfl rfl rfl rfl rfl rfl hU1 rfl rfl hlen1.symm (by rw [eb1]; rfl) (by simp only [maxLen]; omega) (by omega) rfl ?_); intro g1 c1 j1 hU1'
          refine wl_nil ?_
          refine ne_wt ?_
          refine wt_step rfl rfl (by ((repeat (first | refine Weak.same ?_ | refine Weak.off rfl ?_)); exact trivial)) ?_
          refine RS.cons ?_ (RS.nil)
          (first | refine wl_appendTo 3 10 Tryz.vec139 (plsUp rs k ++ prow k (j + 1)).length ((plsUp rs k ++ prow k (j + 1)).flatMap pcells) rfl rfl rfl rfl rfl rfl rfl rfl rfl rfl rfl hU2 rfl rfl hlen1.symm (by rw [eb2]; rfl) (by simp only [maxLen]; omega) (by omega) rfl ?_ | refine wl_appendTo 3 11 Tryz.vec139 (plsUp rs k ++ prow k (j + 1)).length ((plsUp rs k ++ prow k (j + 1)).flatMap pcells) rfl rfl rfl rfl rfl rfl rfl rfl rfl rfl rfl hU2 rfl rfl hlen1.symm (by rw [eb2]; rfl) (by simp only [maxLen]; omega) (by omega) rfl ?_); intro g2 c2 j2 hU2'
          refine wl_nil ?_
          refine ne_wt ?_
          refine wt_step rfl rfl (by ((repeat (first | refine Weak.same ?_ | refine Weak.off rfl ?_)); exact trivial)) ?_
          refine RS.cons ?_ (RS.nil)
          refine wl_storeBx 0 Tryz.hT rfl rfl rfl rfl rfl rfl rfl rfl rfl rfl rfl ?_
          refine wl_nil ?_
          refine ne_wt ?_
          refine wt_stepF rfl rfl (by kernel_rfl) ?_
          refine RS.cons ?_ (RS.nil)
          refine wl_storeBx 1 Tryz.hT rfl rfl rfl rfl rfl rfl rfl rfl rfl rfl rfl ?_
          refine wl_nil ?_
          refine ne_wt ?_
          refine wt_doneF rfl (by kernel_rfl) ?_
          exact ne_late ⟨(⟨some g1, c1, j1⟩, ⟨some g2, c2, j2⟩), hU1', hU2'⟩ ⟨rfl, rfl, trivial⟩ [0, 1, 2, 3, 4, 5, 6, 7, 8] (by decide) rfl
      · rintro ⟨⟨U1', U2'⟩, hU1', hU2'⟩
        refine zN ?_
        exact ne_round 8 (U1', U2', j + 1) hrec rfl ⟨rfl, hU1', hU2'⟩ [] rfl
    · rintro ⟨U1, U2, j⟩ d L rec ⟨e1, hU1, hU2⟩
      obtain rfl : j = (rg rs k).length := e1
      refine zN ?_
      refine zN ?_
      refine zE ?_
      refine zB ?_
      refine wl_pure Tryz.hT rfl rfl rfl ?_
      refine wl_pure Tryz.hT rfl rfl rfl ?_
      refine wl_nil ?_
      refine ne_bag 4 7 rfl rfl ?_
      exact ne_loopD (X := Nat × Vec × Vec × List Nat) (k + 1, U1, U2, d :: ds) ⟨hk, hU1, hU2⟩ (by show rs.length - (k + 1) < rs.length - k; omega) rfl ⟨rfl, rfl, rfl, rfl, rfl, congrArg (fun z => some (Value.int .i64 z)) (wrap_id (x := (k : Int) + 1) (by omega) (by omega)), trivial⟩ [0, 1, 2, 3, 4] (by decide) rfl
  · have e : k = rs.length := by simp at h; omega
    subst e
    clear h hk
    have hpl : (plsUp rs rs.length).length = tot rs := by rw [plsUp_len rs _ (Nat.le_refl _), List.take_length]
    have hget : ∀ i, i < tot rs → (plsUp rs rs.length)[i]? = some (pl rs i) := fun i hi => by
      rw [← hpl] at hi
      simp [pl, hi]
    have hmem : ∀ i, i < tot rs → (pl rs i).1 < rs.length ∧ (pl rs i).2 < (rg rs (pl rs i).1).length := fun i hi => plsUp_mem rs _ _ (List.mem_of_getElem? (hget i hi))
    rw [hpl] at hV1 hV2
    have hR2 := hR
    have hm62 : tot rs < 1099511627776 := hT
    refine zJ ?_
    refine zK ?_
    refine zK ?_
    refine zL ?_
    refine zE ?_
    refine zA ?_
    refine zA ?_
    refine zB ?_
    refine wl_loadBx 0 Tryz.hT rfl rfl rfl rfl rfl rfl rfl rfl ?_
    refine wl_upd 37 (.slice (V1.p.map fun g => ⟨g, 0, none⟩) (tot rs) (match V1.p with | none => 0 | some _ => V1.cap)) rfl (show V1.val (plsUp rs rs.length).length = _ by rw [hpl]; exact Vec.val_eq hV1) ?_
    refine wl_pure Tryz.hT rfl rfl rfl ?_
    refine wl_pure Tryz.hT rfl rfl rfl ?_
    refine wl_nil ?_
    refine zE ?_
    refine zH ?_
    refine wc_loop (X := Nat) (fun i => [(0, slv p rs.length cap), (3, .pointer (some ⟨b3, 0, none⟩)), (4, .pointer (some ⟨b4, 0, none⟩)), (38, .int .i64 (tot rs : Nat)), (39, .int .i64 (i : Nat))])
      (fun _ => [⟨b3, 138, [V1.val (tot rs)], true, none⟩, ⟨b4, 139, [V2.val (tot rs)], true, none⟩, V1.bx 141 ((plsUp rs rs.length).flatMap (bcells rs)), V2.bx 144 ((plsUp rs rs.length).flatMap pcells), bag ds])
      (fun i => i ≤ tot rs ∧ ∀ i', i' < i → ((List.range i').any fun k => crossP rs (pl rs i') (pl rs k)) = false) (fun i => tot rs - i) 0 ⟨Nat.zero_le _, fun j hj => absurd hj (Nat.not_lt_zero _)⟩ ⟨rfl, rfl, rfl, rfl, rfl, trivial⟩ []
      (by show _ = _ ++ []; rw [hpl]; rfl) ?_
    rintro i ⟨hi, hno⟩
    refine zA ?_
    refine zB ?_
    refine wl_pure Tryz.hT rfl rfl rfl ?_
    refine wl_nil ?_
    refine zE ?_
    refine zA ?_
    refine wc_cond rfl (fun h => ?_) (fun h => ?_)
    rotate_left
    · have e : i = tot rs := by simp at h; omega
      subst e
      refine zJ ?_
      refine zK ?_
      refine zK ?_
      refine zL ?_
      refine zE ?_
      refine zA ?_
      refine zB ?_
      refine wl_pure Tryz.hT rfl rfl rfl ?_
      refine wl_nil ?_
      refine zE ?_
      refine zO ?_
      refine ne_marks 4 ds rfl ?_
      have hf : crs rs = false := any_range_false hno
      exact ne_ret1 Tryz.hT rfl (.tmp rfl) () (by rw [hf]) trivial fun W _ => NewBx.nil _ _
    have hi : i < tot rs := by simp at h; omega
    clear h
    obtain ⟨p1, cap1, junk1⟩ := V1
    obtain ⟨p2, cap3, junk2⟩ := V2
    cases p1 with
    | none => exact absurd (hV1.nil rfl) (Nat.ne_of_gt (Nat.lt_of_le_of_lt (Nat.zero_le i) hi))
    | some g1 =>
    cases p2 with
    | none => exact absurd (hV2.nil rfl) (Nat.ne_of_gt (Nat.lt_of_le_of_lt (Nat.zero_le i) hi))
    | some g2 =>
    refine zI ?_
    refine zE ?_
    refine zA ?_
    refine zH ?_
    refine zA ?_
    refine zB ?_
    refine wl_pure Tryz.hT rfl rfl rfl ?_
    refine wl_pure Tryz.hT rfl rfl rfl ?_
    refine wl_nil ?_
    refine zE ?_
    refine zA ?_
    refine zB ?_
    refine wl_pure Tryz.hT rfl rfl rfl ?_
    refine wl_pure Tryz.hT rfl rfl rfl ?_
    refine wl_nil ?_
    refine zE ?_
    refine zH ?_
    refine wc_loop (X := Nat) (fun k => [(0, slv p rs.length cap), (3, .pointer (some ⟨b3, 0, none⟩)), (4, .pointer (some ⟨b4, 0, none⟩)), (38, .int .i64 (tot rs : Nat)), (39, .int .i64 (i : Nat)), (9, .int .i64 (i : Nat)), (42, .int .i64 (i : Nat)), (43, .int .i64 (k : Nat))])
      (fun _ => [⟨b3, 138, [slv (some ⟨g1, 0, none⟩) (tot rs) cap1], true, none⟩, ⟨b4, 139, [slv (some ⟨g2, 0, none⟩) (tot rs) cap3], true, none⟩, (⟨some g1, cap1, junk1⟩ : Vec).bx 141 ((plsUp rs rs.length).flatMap (bcells rs)), (⟨some g2, cap3, junk2⟩ : Vec).bx 144 ((plsUp rs rs.length).flatMap pcells), bag ds])
      (fun k => k ≤ i ∧ ∀ k', k' < k → crossP rs (pl rs i) (pl rs k') = false) (fun k => i - k) 0 ⟨Nat.zero_le _, fun j hj => absurd hj (Nat.not_lt_zero _)⟩ ⟨rfl, rfl, rfl, rfl, rfl, rfl, rfl, rfl, trivial⟩ [] rfl ?_
    rintro k ⟨hk, hnok⟩
    refine zA ?_
    refine zB ?_
    refine wl_pure Tryz.hT rfl rfl rfl ?_
    refine wl_nil ?_
    refine zE ?_
    refine zA ?_
    refine wc_cond rfl (fun h => ?_) (fun h => ?_)
    rotate_left
    · have e : k = i := by simp at h; omega
      subst e
      refine zJ ?_
      refine zK ?_
      refine zK ?_
      refine zL ?_
      refine zN ?_
      refine zE ?_
      refine zB ?_
      refine wl_pure Tryz.hT rfl rfl rfl ?_
      refine wl_pure Tryz.hT rfl rfl rfl ?_
      refine wl_nil ?_
      refine ne_loop (k + 1) ⟨hi, fun i' hi' => ?_⟩ (by omega) ⟨rfl, rfl, rfl, rfl, congrArg (fun z => some (Value.int .i64 z)) (wrap_id (x := (k : Int) + 1) (by omega) (by omega)), trivial⟩ [] rfl
      by_cases e : i' = k
      · subst e; exact any_range_false hnok
      · exact hno i' (by omega)
    have hk : k < i := by simp at h; omega
    clear h
    have hkt : k < tot rs := by omega
    obtain ⟨hi1, hi2⟩ := hmem i hi
    obtain ⟨hk1, hk2⟩ := hmem k hkt
    obtain ⟨b', off, rfl, hrow⟩ := hR.row hi1
    obtain ⟨q, cap2, hq1, hq2⟩ := hrow _ hi1
    have hlk : (rg rs (pl rs i).1).length < 4611686018427387904 := hl _ (List.mem_of_getElem? (rg_get hi1))
    have hlk2 : (rg rs (pl rs k).1).length < 4611686018427387904 := hl _ (List.mem_of_getElem? (rg_get hk1))
    refine zI ?_
    refine zE ?_
    refine zA ?_
    refine zH ?_
    refine zA ?_
    refine zB ?_
    refine wl_pure Tryz.hT rfl rfl rfl ?_
    refine wl_pure Tryz.hT rfl rfl rfl ?_
    refine wl_nil ?_
    refine zE ?_
    refine zA ?_
    refine zB ?_
    refine wl_pure Tryz.hT rfl rfl rfl ?_
    refine wl_loadBx 1 Tryz.hT rfl rfl rfl rfl rfl rfl rfl rfl ?_
    refine wl_pure Tryz.hT rfl rfl rfl ?_
    refine wl_indexAddr Tryz.hT rfl rfl rfl rfl rfl rfl rfl (by omega) (by omega) ?_
    refine wl_pure Tryz.hT rfl rfl rfl ?_
    refine wl_load rfl rfl rfl rfl (fun W hp => RowAt.load 0 Tryz.hT rfl ((fun W hp => Vec.rowAt (f := pcells) (n := 2) (fun _ => rfl) hp 3 rfl (hget i hi)) W hp) rfl) ?_
    refine wl_indexAddr Tryz.hT rfl rfl rfl rfl rfl rfl rfl (by omega) (by omega) ?_
    refine wl_load rfl rfl rfl rfl (fun W hp => RowAt.load 0 Tryz.hT rfl ((fun W hp => hq1.hp hp) W hp) rfl) ?_
    refine wl_pure Tryz.hT rfl rfl rfl ?_
    refine wl_pure Tryz.hT rfl rfl rfl ?_
    refine wl_nil ?_
    refine zE ?_
    refine zA ?_
    refine zT Tryz.mixed (by kernel_rfl) ?_
    refine wq_loadBx 1 Tryz.hT rfl rfl rfl rfl rfl rfl rfl rfl ?_
    refine wq_pure Tryz.hT rfl rfl rfl ?_
    refine wq_indexAddr Tryz.hT rfl rfl rfl rfl rfl rfl rfl (by omega) (by omega) ?_
    refine wq_pure Tryz.hT rfl rfl rfl ?_
    refine wq_load rfl rfl rfl rfl (fun W hp => RowAt.load 1 Tryz.hT rfl ((fun W hp => Vec.rowAt (f := pcells) (n := 2) (fun _ => rfl) hp 3 rfl (hget i hi)) W hp) rfl) ?_
    refine wq_loadBx 1 Tryz.hT rfl rfl rfl rfl rfl rfl rfl rfl ?_
    refine wq_pure Tryz.hT rfl rfl rfl ?_
    refine wq_indexAddr Tryz.hT rfl rfl rfl rfl rfl rfl rfl (by omega) (by omega) ?_
    refine wq_pure Tryz.hT rfl rfl rfl ?_
    refine wq_load rfl rfl rfl rfl (fun W hp => RowAt.load 1 Tryz.hT rfl ((fun W hp => Vec.rowAt (f := pcells) (n := 2) (fun _ => rfl) hp 3 rfl (hget k hkt)) W hp) rfl) ?_
    refine wq_pure Tryz.hT rfl rfl rfl ?_
    refine wq_pure Tryz.hT rfl rfl rfl ?_
    refine wq_nil ?_
    refine wl_nil ?_
    have egap : w64 (((pl rs i).2 : Nat) - ((pl rs k).2 : Nat)) = ((pl rs i).2 : Int) - (pl rs k).2 := w64_id (by omega) (by omega)
    have en1 : w64 (((rg rs (pl rs i).1).length : Nat) - 1) = ((rg rs (pl rs i).1).length : Int) - 1 := w64_id (by omega) (by omega)
    refine ne_then ?_
    refine wc_upd 12 _ rfl (congrArg (Value.int .i64) egap) ?_
    refine wc_cut (X := Unit) (fun _ => [(0, slv (some ⟨b', off, none⟩) rs.length cap), (3, .pointer (some ⟨b3, 0, none⟩)), (4, .pointer (some ⟨b4, 0, none⟩)), (38, .int .i64 (tot rs : Nat)), (39, .int .i64 (i : Nat)), (9, .int .i64 (i : Nat)), (10, .int .i64 (k : Nat)), (42, .int .i64 (i : Nat)), (43, .int .i64 (k : Nat)), (13, .bool (nbB (rg rs (pl rs i).1).length (pl rs i) (pl rs k)))])
      (fun _ => [⟨b3, 138, [slv (some ⟨g1, 0, none⟩) (tot rs) cap1], true, none⟩, ⟨b4, 139, [slv (some ⟨g2, 0, none⟩) (tot rs) cap3], true, none⟩, (⟨some g1, cap1, junk1⟩ : Vec).bx 141 ((plsUp rs rs.length).flatMap (bcells rs)), (⟨some g2, cap3, junk2⟩ : Vec).bx 144 ((plsUp rs rs.length).flatMap pcells), bag ds]) (fun _ => True) ?_ ?_
    · refine zT Tryz.mixed (by kernel_rfl) ?_
      refine wq_loadBx 1 Tryz.hT rfl rfl rfl rfl rfl rfl rfl rfl ?_
      refine wq_pure Tryz.hT rfl rfl rfl ?_
      refine wq_indexAddr Tryz.hT rfl rfl rfl rfl rfl rfl rfl (by omega) (by omega) ?_
      refine wq_pure Tryz.hT rfl rfl rfl ?_
      refine wq_load rfl rfl rfl rfl (fun W hp => RowAt.load 0 Tryz.hT rfl ((fun W hp => Vec.rowAt (f := pcells) (n := 2) (fun _ => rfl) hp 3 rfl (hget i hi)) W hp) rfl) ?_
      refine wq_loadBx 1 Tryz.hT rfl rfl rfl rfl rfl rfl rfl rfl ?_
      refine wq_pure Tryz.hT rfl rfl rfl ?_
      refine wq_indexAddr Tryz.hT rfl rfl rfl rfl rfl rfl rfl (by omega) (by omega) ?_
      refine wq_pure Tryz.hT rfl rfl rfl ?_
      refine wq_load rfl rfl rfl rfl (fun W hp => RowAt.load 0 Tryz.hT rfl ((fun W hp => Vec.rowAt (f := pcells) (n := 2) (fun _ => rfl) hp 3 rfl (hget k hkt)) W hp) rfl) ?_
      refine wq_pure Tryz.hT rfl rfl rfl ?_
      refine wq_pure Tryz.hT rfl rfl rfl ?_
      have e1 : ((((pl rs i).1 : Nat) : Int) == (((pl rs k).1 : Nat) : Int)) = ((pl rs i).1 == (pl rs k).1) := by
        by_cases h : (pl rs i).1 = (pl rs k).1
        · rw [h, beq_self_eq_true, beq_self_eq_true]
        · have h1 : (((pl rs i).1 : Nat) : Int) ≠ (pl rs k).1 := by omega
          rw [beq_eq_false_iff_ne.2 h1, beq_eq_false_iff_ne.2 h]
      refine wq_part 77 rfl (fun h77 => ?_) (fun h77 => ?_)
      · have h77' : ((pl rs i).1 == (pl rs k).1) = true := e1.symm.trans h77
        refine wq_pure Tryz.hT rfl rfl rfl ?_
        refine wq_pure Tryz.hT rfl rfl rfl ?_
        refine wq_pure Tryz.hT rfl rfl rfl ?_
        refine wq_part 80 rfl (fun h80 => ?_) (fun h80 => ?_)
        · have e : nbB (rg rs (pl rs i).1).length (pl rs i) (pl rs k) = true := by
            have h80' : (((pl rs i).2 : Int) - (pl rs k).2 == 1) = true := h80
            unfold nbB; rw [h77', h80']; rfl
          refine wq_skip rfl rfl ?_
          refine wq_skip rfl rfl ?_
          refine wq_skip rfl rfl ?_
          refine wq_skip rfl rfl ?_
          refine wq_pure Tryz.hT rfl rfl rfl ?_
          refine wq_pure Tryz.hT rfl rfl rfl ?_
          refine wq_pure Tryz.hT rfl rfl rfl ?_
          refine wq_nil ?_
          refine wl_nil ?_
          exact ne_cut () trivial ⟨rfl, rfl, rfl, rfl, rfl, rfl, rfl, rfl, rfl, by rw [e]; rfl, trivial⟩ [] rfl
        · have e : nbB (rg rs (pl rs i).1).length (pl rs i) (pl rs k) = (((pl rs i).2 : Int) - (pl rs k).2 == w64 (((rg rs (pl rs i).1).length : Nat) - 1)) := by
            have h80' : (((pl rs i).2 : Int) - (pl rs k).2 == 1) = false := h80
            unfold nbB; rw [h77', h80', en1]; rfl
          refine wq_pure Tryz.hT rfl rfl rfl ?_
          refine wq_pure Tryz.hT rfl rfl rfl ?_
          refine wq_pure Tryz.hT rfl rfl rfl ?_
          refine wq_pure Tryz.hT rfl rfl rfl ?_
          refine wq_pure Tryz.hT rfl rfl rfl ?_
          refine wq_pure Tryz.hT rfl rfl rfl ?_
          refine wq_pure Tryz.hT rfl rfl rfl ?_
          refine wq_nil ?_
          refine wl_nil ?_
          exact ne_cut () trivial ⟨rfl, rfl, rfl, rfl, rfl, rfl, rfl, rfl, rfl, by rw [e]; rfl, trivial⟩ [] rfl
      · have h77' : ((pl rs i).1 == (pl rs k).1) = false := e1.symm.trans h77
        have e : nbB (rg rs (pl rs i).1).length (pl rs i) (pl rs k) = false := by unfold nbB; rw [h77']; rfl
        refine wq_skip rfl rfl ?_
        refine wq_skip rfl rfl ?_
        refine wq_skip rfl rfl ?_
        refine wq_skip rfl rfl ?_
        refine wq_skip rfl rfl ?_
        refine wq_skip rfl rfl ?_
        refine wq_skip rfl rfl ?_
        refine wq_skip rfl rfl ?_
        refine wq_pure Tryz.hT rfl rfl rfl ?_
        refine wq_pure Tryz.hT rfl rfl rfl ?_
        refine wq_nil ?_
        refine wl_nil ?_
        exact ne_cut () trivial ⟨rfl, rfl, rfl, rfl, rfl, rfl, rfl, rfl, rfl, by rw [e]; rfl, trivial⟩ [] rfl
    intro _ _
    have next : crossP rs (pl rs i) (pl rs k) = false → ∀ k', k' < k + 1 → crossP rs (pl rs i) (pl rs k') = false := fun h k' hk' => by
      by_cases e : k' = k
      · subst e; exact h
      · exact hnok k' (by omega)
    refine zA ?_
    refine zT Tryz.mixed (by kernel_rfl) ?_
    refine wq_pure Tryz.hT rfl rfl rfl ?_
    refine wq_pure Tryz.hT rfl rfl rfl ?_
    refine wq_pure Tryz.hT rfl rfl rfl ?_
    refine wq_part 89 rfl (fun h89 => ?_) (fun h89 => ?_)
    · have hnb : nbB (rg rs (pl rs i).1).length (pl rs i) (pl rs k) = false := by simpa using h89
      refine wq_loadBx 0 Tryz.hT rfl rfl rfl rfl rfl rfl rfl rfl ?_
      refine wq_pure Tryz.hT rfl rfl rfl ?_
      refine wq_indexAddr Tryz.hT rfl rfl rfl rfl rfl rfl rfl (by omega) (by omega) ?_
      refine wq_load rfl rfl rfl rfl (fun W hp => RowAt.load 0 Tryz.hT rfl ((fun W hp => Vec.rowAt (f := bcells rs) (n := 4) (fun _ => rfl) hp 2 rfl (hget i hi)) W hp) rfl) ?_
      refine wq_loadBx 0 Tryz.hT rfl rfl rfl rfl rfl rfl rfl rfl ?_
      refine wq_pure Tryz.hT rfl rfl rfl ?_
      refine wq_indexAddr Tryz.hT rfl rfl rfl rfl rfl rfl rfl (by omega) (by omega) ?_
      refine wq_load rfl rfl rfl rfl (fun W hp => RowAt.load 0 Tryz.hT rfl ((fun W hp => Vec.rowAt (f := bcells rs) (n := 4) (fun _ => rfl) hp 2 rfl (hget k hkt)) W hp) rfl) ?_
      refine wq_call1 rfl rfl rfl rfl rfl rfl (by kernel_rfl) (fun W _ => (meets_gives ..)) ?_
      refine wq_pure Tryz.hT rfl rfl rfl ?_
      refine wq_nil ?_
      refine wl_nil ?_
      refine zE ?_
      refine wc_cond rfl (fun h => ?_) (fun h => ?_)
      · refine zA ?_
        refine zB ?_
        refine wl_pure Tryz.hT rfl rfl rfl ?_
        refine wl_nil ?_
        refine zE ?_
        refine zO ?_
        refine zQ ?_
        refine zP ?_
        refine zP ?_
        refine zQ ?_
        refine zQ ?_
        refine zP ?_
        refine zP ?_
        refine zQ ?_
        refine zP ?_
        refine ne_marks 4 ds rfl ?_
        have hf : crs rs = true := any_range_true hi (any_range_true hk (by unfold crossP; rw [hnb]; exact h))
        exact ne_ret1 Tryz.hT rfl (.tmp rfl) () (by rw [hf]) trivial fun W _ => NewBx.nil _ _
      · refine zI ?_
        refine zN ?_
        refine zE ?_
        refine zB ?_
        refine wl_pure Tryz.hT rfl rfl rfl ?_
        refine wl_pure Tryz.hT rfl rfl rfl ?_
        refine wl_nil ?_
        exact ne_loop (k + 1) ⟨hk, next (by unfold crossP; rw [hnb]; exact h)⟩ (by omega) ⟨rfl, rfl, rfl, rfl, rfl, rfl, rfl, congrArg (fun z => some (Value.int .i64 z)) (wrap_id (x := (k : Int) + 1) (by omega) (by omega)), trivial⟩ [] rfl
    · have hnb : nbB (rg rs (pl rs i).1).length (pl rs i) (pl rs k) = true := by simpa using h89
      refine wq_skip rfl rfl ?_
      refine wq_skip rfl rfl ?_
      refine wq_skip rfl rfl ?_
      refine wq_skip rfl rfl ?_
      refine wq_skip rfl rfl ?_
      refine wq_skip rfl rfl ?_
      refine wq_skip rfl rfl ?_
      refine wq_skip rfl rfl ?_
      refine wq_skip rfl rfl ?_
      refine wq_pure Tryz.hT rfl rfl rfl ?_
      refine wq_nil ?_
      refine wl_nil ?_
      refine zE ?_
      refine zS rfl ?_
      refine zI ?_
      refine zN ?_
      refine zE ?_
      refine zB ?_
      refine wl_pure Tryz.hT rfl rfl rfl ?_
      refine wl_pure Tryz.hT rfl rfl rfl ?_
      refine wl_nil ?_
      exact ne_loop (k + 1) ⟨hk, next (by unfold crossP; rw [hnb]; rfl)⟩ (by omega) ⟨rfl, rfl, rfl, rfl, rfl, rfl, rfl, congrArg (fun z => some (Value.int .i64 z)) (wrap_id (x := (k : Int) + 1) (by omega) (by omega)), trivial⟩ [] rfl
end Go.Proofs.YtnpfkmbcejgnjaaGreatDoor
