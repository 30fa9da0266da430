/-
  Plain facts: the text of a plan, and what can be read.
-/
import Derived.Test.YtnpfkmbcejgnjaaGreatDoorDigits
import Derived.Test.YtnpfkmbcejgnjaaGreatDoorRings
import Derived.Lib.Join
import Derived.Lib.Split
import Derived.Lib.CountLaws
namespace Go.Proofs.YtnpfkmbcejgnjaaGreatDoor
open Go Go.Lib
/-! ### Pieces between separators -/
def splt (c : UInt8) : List UInt8 → List (List UInt8)
  | [] => [[]]
  | b :: l => if b = c then [] :: splt c l else (b :: (splt c l).headD []) :: (splt c l).tail
theorem splt_cons (c : UInt8) : ∀ l, splt c l = (splt c l).headD [] :: (splt c l).tail
  | [] => rfl
  | b :: l => by
    have e : splt c (b :: l) = if b = c then [] :: splt c l else (b :: (splt c l).headD []) :: (splt c l).tail := rfl
    rw [e]
    split <;> rfl
theorem splt_ne (c : UInt8) (l : List UInt8) : splt c l ≠ [] := by rw [splt_cons]; simp
theorem splt_at {c : UInt8} (l : List UInt8) : ∀ {w : List UInt8}, c ∉ w → splt c (w ++ c :: l) = w :: splt c l
  | [], _ => by show (if c = c then _ else _) = _; rw [if_pos rfl]
  | b :: w, h => by
    have hb : b ≠ c := fun e => h (e ▸ List.mem_cons_self ..)
    show (if b = c then [] :: splt c (w ++ c :: l) else (b :: (splt c (w ++ c :: l)).headD []) :: (splt c (w ++ c :: l)).tail) = _
    rw [if_neg hb, splt_at l fun h' => h (List.mem_cons_of_mem _ h')]; rfl
theorem splt_one {c : UInt8} : ∀ {w : List UInt8}, c ∉ w → splt c w = [w]
  | [], _ => rfl
  | b :: w, h => by
    have hb : b ≠ c := fun e => h (e ▸ List.mem_cons_self ..)
    show (if b = c then _ else _) = _
    rw [if_neg hb, splt_one fun h' => h (List.mem_cons_of_mem _ h')]; rfl
theorem join_more (x y : List UInt8) (r : List (List UInt8)) (c : UInt8) : join (x :: y :: r) [c] = x ++ c :: join (y :: r) [c] := by
  rw [join_cons, join_cons]
  simp [joinTail]
theorem splt_join {c : UInt8} : ∀ {ws : List (List UInt8)}, ws ≠ [] → (∀ w ∈ ws, c ∉ w) → splt c (join ws [c]) = ws
  | [], h, _ => absurd rfl h
  | [w], _, h => by rw [join_one]; exact splt_one (h w (List.mem_cons_self ..))
  | w :: v :: r, _, h => by
    rw [join_more, splt_at _ (h w (List.mem_cons_self ..)), splt_join (by simp) fun u hu => h u (List.mem_cons_of_mem _ hu)]
theorem join_splt (c : UInt8) : ∀ s, join (splt c s) [c] = s
  | [] => by show join [[]] [c] = []; rw [join_one]
  | b :: l => by
    have ih := join_splt c l
    have hc := splt_cons c l
    show join (if b = c then _ else _) [c] = _
    split
    · rename_i e
      subst e
      rw [hc, join_more, ← hc, ih]; rfl
    · generalize (splt c l).headD [] = w at hc ⊢
      generalize (splt c l).tail = r at hc ⊢
      rw [hc] at ih
      rw [join_cons] at ih ⊢
      rw [← ih]; rfl
theorem splt_no {c : UInt8} : ∀ {s w : List UInt8}, w ∈ splt c s → c ∉ w
  | [], w, h => by obtain rfl := List.mem_singleton.1 (show w ∈ [[]] from h); exact List.not_mem_nil
  | b :: l, w, h => by
    have hc := splt_cons c l
    change w ∈ (if b = c then _ else _) at h
    split at h
    · rcases List.mem_cons.1 h with rfl | h
      · exact List.not_mem_nil
      · exact splt_no h
    · rename_i hb
      have h1 : ∀ u, u ∈ splt c l → c ∉ u := fun u hu => splt_no hu
      rw [hc] at h1
      rcases List.mem_cons.1 h with rfl | h
      · intro hm
        rcases List.mem_cons.1 hm with e | hm
        · exact hb e.symm
        · exact h1 _ (List.mem_cons_self ..) hm
      · exact h1 w (List.mem_cons_of_mem _ h)
theorem at_first (c : UInt8) : ∀ s : List UInt8, c ∉ s ∨ ∃ a b, s = a ++ c :: b ∧ c ∉ a
  | [] => .inl List.not_mem_nil
  | x :: s => by
    by_cases e : x = c
    · subst e; exact .inr ⟨[], s, rfl, List.not_mem_nil⟩
    · rcases at_first c s with h | ⟨a, b, h, h2⟩
      · exact .inl fun hm => by
          rcases List.mem_cons.1 hm with e' | hm
          · exact e e'.symm
          · exact h hm
      · refine .inr ⟨x :: a, b, by rw [h]; rfl, fun hm => ?_⟩
        rcases List.mem_cons.1 hm with e' | hm
        · exact e e'.symm
        · exact h2 hm
theorem index_miss {c : UInt8} : ∀ {s : List UInt8}, c ∉ s → index s [c] = -1
  | [], _ => rfl
  | x :: s, h => by
    have hx : (c == x) = false := beq_false_of_ne fun e => h (e ▸ List.mem_cons_self ..)
    unfold index
    rw [if_neg (by simp [List.isPrefixOf, hx]), index_miss fun h' => h (List.mem_cons_of_mem _ h')]; rfl
theorem index_at {c : UInt8} (b : List UInt8) : ∀ {a : List UInt8}, c ∉ a → index (a ++ c :: b) [c] = a.length
  | [], _ => by
    show index (c :: b) [c] = _
    unfold index
    rw [if_pos (by simp [List.isPrefixOf])]; rfl
  | x :: a, h => by
    have hx : (c == x) = false := beq_false_of_ne fun e => h (e ▸ List.mem_cons_self ..)
    have ih := index_at b (a := a) fun h' => h (List.mem_cons_of_mem _ h')
    show index (x :: (a ++ c :: b)) [c] = _
    unfold index
    rw [if_neg (by simp [List.isPrefixOf, hx]), ih, if_neg (by simp), List.length_cons]; omega
theorem cut_miss {c : UInt8} {s : List UInt8} (h : c ∉ s) : cut s [c] = (s, [], false) := by
  unfold cut
  rw [index_miss h, if_neg (by decide)]
theorem cut_at {c : UInt8} {a : List UInt8} (b : List UInt8) (h : c ∉ a) : cut (a ++ c :: b) [c] = (a, b, true) := by
  unfold cut
  rw [index_at b h, if_pos (by omega)]
  have e : (a ++ c :: b).drop (a.length + 1) = b := by
    rw [show a ++ c :: b = (a ++ [c]) ++ b by simp]
    exact List.drop_left' (by simp)
  rw [show ((a.length : Nat) : Int).toNat = a.length by omega, show ([c] : List UInt8).length = 1 from rfl, e, List.take_left]
theorem splitK_splt {c : UInt8} : ∀ (k : Nat) (s : List UInt8), count s [c] ≤ k → splitK [c] 0 k s = splt c s
  | k, s, h => by
    rcases at_first c s with hm | ⟨a, b, rfl, ha⟩
    · rw [splt_one hm]
      cases k with
      | zero => rfl
      | succ k => unfold splitK; rw [index_miss hm]; rfl
    · have hi := index_at b ha
      have hc := count_hit (sub := [c]) (by simp) hi
      have e : (a ++ c :: b).drop (a.length + ([c] : List UInt8).length) = b := by
        rw [show a ++ c :: b = (a ++ [c]) ++ b by simp]
        exact List.drop_left' (by simp)
      rw [e] at hc
      cases k with
      | zero => omega
      | succ k =>
        unfold splitK
        rw [hi, if_neg (by simp), show ((a.length : Nat) : Int).toNat = a.length by omega, e, splt_at b ha, splitK_splt k b (by omega), Nat.add_zero, List.take_left]
/-! ### Numbers -/
theorem dd_long : ∀ (k u : Nat), (decDigits u).length ≤ k → u < 10 ^ k
  | 0, u, h => absurd (List.length_eq_zero_iff.1 (Nat.le_zero.1 h)) (dd_ne u)
  | k + 1, u, h => by
    by_cases hu : u < 10
    · exact Nat.lt_of_lt_of_le hu (by rw [Nat.pow_succ]; have := Nat.pow_pos (n := k) (show 0 < 10 by decide); omega)
    · rw [decDigits, dif_neg hu, List.length_append, List.length_singleton] at h
      have := dd_long k (u / 10) (by omega)
      rw [Nat.pow_succ]; omega
theorem itoa_bytes (n : Int) : ∀ b ∈ itoa n, b = 45 ∨ (48 ≤ b.toNat ∧ b.toNat ≤ 57) := by
  intro b hb
  unfold itoa at hb
  split at hb
  · rcases List.mem_cons.1 hb with h | h
    · exact .inl h
    · exact .inr (dd_digits _ b h)
  · exact .inr (dd_digits _ b hb)
theorem itoa_no {c : UInt8} (h : c ≠ 45) (h2 : c.toNat < 48) (n : Int) : c ∉ itoa n := fun hm => by
  rcases itoa_bytes n c hm with e | e
  · exact h e
  · omega
/-- The number of a word. -/
def numW (w : List UInt8) : Option Int := match atoiAll w with
  | .ok n => if n < 0 ∨ 9 < w.length ∨ itoa n ≠ w then none else some n
  | _ => none
def okI (n : Int) : Prop := 0 ≤ n ∧ (itoa n).length ≤ 9
theorem numW_iff {w : List UInt8} {n : Int} : numW w = some n ↔ w = itoa n ∧ okI n := by
  unfold numW okI
  constructor
  · intro h
    split at h
    · split at h
      · cases h
      · rename_i m hm hn
        injection h with h
        subst h
        refine ⟨?_, by omega, ?_⟩
        · exact Classical.byContradiction fun e => hn (.inr (.inr fun e' => e e'.symm))
        · have : itoa m = w := Classical.byContradiction fun e => hn (.inr (.inr e))
          rw [this]; exact Nat.le_of_not_lt fun e => hn (.inr (.inl e))
    · cases h
  · rintro ⟨rfl, h0, h9⟩
    have hb : n.toNat < 10 ^ 9 := dd_long 9 _ (by unfold itoa at h9; rwa [if_neg (by omega)] at h9)
    rw [atoi_itoa n (by omega) (by omega)]
    show (if n < 0 ∨ 9 < (itoa n).length ∨ itoa n ≠ itoa n then none else some n) = _
    rw [if_neg]
    rintro (h | h | h)
    · omega
    · omega
    · exact h rfl
/-! ### Sides -/
def gableW : List UInt8 := [103, 97, 98, 108, 101]
def ringW : List UInt8 := [114, 105, 110, 103]
def wordsOf (s : Sd) : List (List UInt8) := if s.gable then [itoa s.x, itoa s.y, gableW, itoa s.plate, itoa s.over] else [itoa s.x, itoa s.y, itoa s.rise, itoa s.run, itoa s.plate, itoa s.over]
def lineOf (s : Sd) : List UInt8 := join (wordsOf s) [32]
/-- The numbers of words, if all of them are numbers. -/
def numsW : List (List UInt8) → Option (List Int)
  | [] => some []
  | w :: ws => match numW w, numsW ws with
    | some n, some ns => some (n :: ns)
    | _, _ => none
theorem numsW_iff : ∀ {ws : List (List UInt8)} {ns : List Int}, numsW ws = some ns ↔ ws = ns.map itoa ∧ ∀ n ∈ ns, okI n
  | [], ns => by
    constructor
    · intro h
      injection h with h
      subst h
      exact ⟨rfl, fun n h => absurd h List.not_mem_nil⟩
    · rintro ⟨h, _⟩
      cases ns with
      | nil => rfl
      | cons => cases h
  | w :: ws, ns => by
    unfold numsW
    constructor
    · intro h
      split at h
      · rename_i n ms h1 h2
        injection h with h
        subst h
        obtain ⟨e1, o1⟩ := numW_iff.1 h1
        obtain ⟨e2, o2⟩ := numsW_iff.1 h2
        refine ⟨by rw [e1, e2]; rfl, fun m hm => ?_⟩
        rcases List.mem_cons.1 hm with rfl | hm
        · exact o1
        · exact o2 m hm
      · cases h
    · rintro ⟨h, ho⟩
      cases ns with
      | nil => cases h
      | cons n ms =>
        injection h with h1 h2
        rw [numW_iff.2 ⟨h1, ho n (List.mem_cons_self ..)⟩, numsW_iff.2 ⟨h2, fun m hm => ho m (List.mem_cons_of_mem _ hm)⟩]
def okSd (s : Sd) : Prop := okI s.x ∧ okI s.y ∧ (s.gable = true → s.rise = 0 ∧ s.run = 0) ∧ (s.gable = false → okI s.rise ∧ okI s.run) ∧ okI s.plate ∧ okI s.over
/-- The side of a line. -/
def sideP (line : List UInt8) : Option Sd :=
  if (splt 32 line).length = 5 ∧ (splt 32 line)[2]? = some gableW then
    match numsW ((splt 32 line).take 2 ++ (splt 32 line).drop 3) with
    | some [a, b, c, d] => some ⟨a, b, 0, 0, true, c, d⟩
    | _ => none
  else match numsW (splt 32 line) with
    | some [a, b, c, d, e, f] => some ⟨a, b, c, d, false, e, f⟩
    | _ => none
theorem gable_not (n : Int) : itoa n ≠ gableW := fun e => by
  have := itoa_bytes n 103 (by rw [e]; decide)
  revert this; decide
theorem words_no (s : Sd) : ∀ w ∈ wordsOf s, (32 : UInt8) ∉ w ∧ (10 : UInt8) ∉ w := by
  have h1 : ∀ n : Int, (32 : UInt8) ∉ itoa n ∧ (10 : UInt8) ∉ itoa n := fun n => ⟨itoa_no (by decide) (by decide) n, itoa_no (by decide) (by decide) n⟩
  have h2 : (32 : UInt8) ∉ gableW ∧ (10 : UInt8) ∉ gableW := by decide
  intro w hw
  unfold wordsOf at hw
  split at hw
  · simp only [List.mem_cons, List.not_mem_nil, or_false] at hw
    rcases hw with rfl | rfl | rfl | rfl | rfl
    · exact h1 _
    · exact h1 _
    · exact h2
    · exact h1 _
    · exact h1 _
  · simp only [List.mem_cons, List.not_mem_nil, or_false] at hw
    rcases hw with rfl | rfl | rfl | rfl | rfl | rfl <;> exact h1 _
theorem splt_line (s : Sd) : splt 32 (lineOf s) = wordsOf s := splt_join (by unfold wordsOf; split <;> simp) fun w hw => (words_no s w hw).1
theorem sideP_line {s : Sd} (h : okSd s) : sideP (lineOf s) = some s := by
  obtain ⟨h1, h2, h3, h4, h5, h6⟩ := h
  unfold sideP
  rw [splt_line]
  cases hg : s.gable with
  | true =>
    have e : wordsOf s = [itoa s.x, itoa s.y, gableW, itoa s.plate, itoa s.over] := by unfold wordsOf; rw [if_pos hg]
    rw [e, if_pos ⟨rfl, rfl⟩]
    have hn : numsW (List.take 2 [itoa s.x, itoa s.y, gableW, itoa s.plate, itoa s.over] ++ List.drop 3 [itoa s.x, itoa s.y, gableW, itoa s.plate, itoa s.over]) = some [s.x, s.y, s.plate, s.over] := numsW_iff.2 ⟨rfl, fun n hn => by
      simp only [List.mem_cons, List.not_mem_nil, or_false] at hn
      rcases hn with rfl | rfl | rfl | rfl <;> assumption⟩
    rw [hn]
    obtain ⟨r1, r2⟩ := h3 hg
    cases s
    simp only at *
    subst r1 r2 hg
    rfl
  | false =>
    have e : wordsOf s = [itoa s.x, itoa s.y, itoa s.rise, itoa s.run, itoa s.plate, itoa s.over] := by unfold wordsOf; rw [if_neg (by rw [hg]; decide)]
    obtain ⟨r1, r2⟩ := h4 hg
    rw [e, if_neg (fun h => by have := h.1; simp at this)]
    have hn : numsW [itoa s.x, itoa s.y, itoa s.rise, itoa s.run, itoa s.plate, itoa s.over] = some [s.x, s.y, s.rise, s.run, s.plate, s.over] := numsW_iff.2 ⟨rfl, fun n hn => by
      simp only [List.mem_cons, List.not_mem_nil, or_false] at hn
      rcases hn with rfl | rfl | rfl | rfl | rfl | rfl <;> assumption⟩
    rw [hn]
    cases s
    simp only at *
    subst hg
    rfl
theorem sideP_some {line : List UInt8} {s : Sd} (h : sideP line = some s) : line = lineOf s ∧ okSd s := by
  have hj := join_splt 32 line
  unfold sideP at h
  split at h
  · rename_i hc
    split at h
    · rename_i a b c d hn
      injection h with h
      subst h
      obtain ⟨e, ho⟩ := numsW_iff.1 hn
      have h1 := ho a (by simp)
      have h2 := ho b (by simp)
      have h3 := ho c (by simp)
      have h4 := ho d (by simp)
      refine ⟨?_, h1, h2, fun _ => ⟨rfl, rfl⟩, fun h => (by cases h), h3, h4⟩
      rw [← hj]
      have : splt 32 line = [itoa a, itoa b, gableW, itoa c, itoa d] := by
        obtain ⟨hl, hw⟩ := hc
        generalize splt 32 line = ws at *
        match ws, hl with
        | [w1, w2, w3, w4, w5], _ =>
          simp only [List.take, List.drop, List.cons_append, List.nil_append, List.map, List.cons.injEq, and_true, List.getElem?_cons_succ, List.getElem?_cons_zero, Option.some.injEq] at e hw
          obtain ⟨e1, e2, e3, e4⟩ := e
          rw [e1, e2, e3, e4, hw]
      rw [this]; rfl
    · cases h
  · split at h
    · rename_i a b c d e f hn
      injection h with h
      subst h
      obtain ⟨e', ho⟩ := numsW_iff.1 hn
      refine ⟨?_, ho a (by simp), ho b (by simp), fun h => (by cases h), fun _ => ⟨ho c (by simp), ho d (by simp)⟩, ho e (by simp), ho f (by simp)⟩
      rw [← hj, e']; rfl
    · cases h
theorem line_no (s : Sd) : (10 : UInt8) ∉ lineOf s := by
  have h := fun w hw => (words_no s w hw).2
  have : ∀ (ws : List (List UInt8)), (∀ w ∈ ws, (10 : UInt8) ∉ w) → (10 : UInt8) ∉ join ws [32] := fun ws => by
    induction ws with
    | nil => exact fun _ => List.not_mem_nil
    | cons w ws ih =>
      intro h
      cases ws with
      | nil => rw [join_one]; exact h w (List.mem_cons_self ..)
      | cons v r =>
        rw [join_more]
        intro hm
        rcases List.mem_append.1 hm with hm | hm
        · exact h w (List.mem_cons_self ..) hm
        · rcases List.mem_cons.1 hm with hm | hm
          · revert hm; decide
          · exact ih (fun u hu => h u (List.mem_cons_of_mem _ hu)) hm
  exact this _ h
theorem line_ring (s : Sd) : lineOf s ≠ ringW := fun e => by
  have h1 : splt 32 (lineOf s) = [ringW] := by rw [e]; rfl
  rw [splt_line] at h1
  have h2 := congrArg List.length h1
  unfold wordsOf at h2
  split at h2 <;> simp at h2
/-! ### Plans -/
def lns (l : List Sd) : List (List UInt8) := ringW :: l.map lineOf
def planLines (rs : List (List Sd)) : List (List UInt8) := (rs.map lns).flatten
def unl (ls : List (List UInt8)) : List UInt8 := (ls.map (· ++ [10])).flatten
def planText (rs : List (List Sd)) : List UInt8 := unl (planLines rs)
/-- What lines make of the rings that are read. -/
def parseL : List (List Sd) → List (List UInt8) → Option (List (List Sd))
  | rs, [] => some rs
  | rs, [last] => if last = [] then some rs else none
  | rs, line :: next :: ls => if line = ringW then parseL (rs ++ [[]]) (next :: ls) else match sideP line with
    | none => none
    | some x => if rs = [] then none else parseL (rs.dropLast ++ [rs.getLastD [] ++ [x]]) (next :: ls)
def parseF (rs : List (List Sd)) (s : List UInt8) : Option (List (List Sd)) := parseL rs (splt 10 s)
theorem parseF_nil (rs : List (List Sd)) : parseF rs [] = some rs := rfl
theorem parseF_miss {rs : List (List Sd)} {s : List UInt8} (h : (10 : UInt8) ∉ s) (h0 : s ≠ []) : parseF rs s = none := by
  unfold parseF
  rw [splt_one h]
  show (if s = [] then _ else _) = _
  rw [if_neg h0]
theorem parseF_at {rs : List (List Sd)} {a : List UInt8} (b : List UInt8) (h : (10 : UInt8) ∉ a) : parseF rs (a ++ 10 :: b) = if a = ringW then parseF (rs ++ [[]]) b else match sideP a with
    | none => none
    | some x => if rs = [] then none else parseF (rs.dropLast ++ [rs.getLastD [] ++ [x]]) b := by
  unfold parseF
  rw [splt_at b h, splt_cons 10 b]
  rfl
theorem unl_cons (l : List UInt8) (ls : List (List UInt8)) : unl (l :: ls) = l ++ 10 :: unl ls := by simp [unl]
theorem unl_app (a b : List (List UInt8)) : unl (a ++ b) = unl a ++ unl b := by simp [unl]
theorem planText_app (a b : List (List Sd)) : planText (a ++ b) = planText a ++ planText b := by simp [planText, planLines, unl]
theorem planText_push {rs : List (List Sd)} (h : rs ≠ []) (x : Sd) : planText (rs.dropLast ++ [rs.getLastD [] ++ [x]]) = planText rs ++ (lineOf x ++ [10]) := by
  have e : rs = rs.dropLast ++ [rs.getLastD []] := by
    conv => lhs; rw [← List.dropLast_concat_getLast h]
    rw [List.getLastD_eq_getLast?, List.getLast?_eq_some_getLast h]; rfl
  conv => rhs; rw [e]
  rw [planText_app, planText_app, List.append_assoc]
  congr 1
  simp [planText, planLines, lns, unl]
/-- What is read has the text that it was read from. -/
theorem parseF_text : ∀ (n : Nat) {rs out : List (List Sd)} {s : List UInt8}, s.length ≤ n → parseF rs s = some out → (∀ l ∈ rs, ∀ x ∈ l, okSd x) → planText out = planText rs ++ s ∧ ∀ l ∈ out, ∀ x ∈ l, okSd x
  | n, rs, out, s, hn, h, ho => by
    rcases at_first 10 s with hm | ⟨a, b, rfl, ha⟩
    · by_cases h0 : s = []
      · subst h0
        injection h with h
        subst h
        exact ⟨by rw [List.append_nil], ho⟩
      · rw [parseF_miss hm h0] at h; cases h
    · rw [parseF_at b ha] at h
      rw [List.length_append, List.length_cons] at hn
      cases n with
      | zero => omega
      | succ n =>
        split at h
        · rename_i e
          subst e
          obtain ⟨h1, h2⟩ := parseF_text n (by omega) h (fun l hl x hx => by
            rcases List.mem_append.1 hl with hl | hl
            · exact ho l hl x hx
            · obtain rfl := List.mem_singleton.1 hl; cases hx)
          refine ⟨?_, h2⟩
          rw [h1, planText_app, List.append_assoc]
          rfl
        · split at h
          · cases h
          · rename_i x hx
            split at h
            · cases h
            · rename_i hr
              obtain ⟨e, hok⟩ := sideP_some hx
              obtain ⟨h1, h2⟩ := parseF_text n (by omega) h (fun l hl y hy => by
                rcases List.mem_append.1 hl with hl | hl
                · exact ho l (List.dropLast_subset _ hl) y hy
                · obtain rfl := List.mem_singleton.1 hl
                  rcases List.mem_append.1 hy with hy | hy
                  · refine ho _ ?_ y hy
                    rw [List.getLastD_eq_getLast?, List.getLast?_eq_some_getLast hr]
                    exact List.getLast_mem hr
                  · obtain rfl := List.mem_singleton.1 hy; exact hok)
              refine ⟨?_, h2⟩
              rw [h1, planText_push hr, e]
              simp
theorem parse_sides {acc : List (List Sd)} (rest : List UInt8) : ∀ (l m : List Sd), (∀ x ∈ l, okSd x) → parseF (acc ++ [m]) (unl (l.map lineOf) ++ rest) = parseF (acc ++ [m ++ l]) rest
  | [], m, _ => by rw [List.append_nil]; rfl
  | x :: l, m, h => by
    have h1 := sideP_line (h x (List.mem_cons_self ..))
    rw [List.map_cons, unl_cons, List.append_assoc, List.cons_append, parseF_at _ (line_no x), if_neg (line_ring x), h1]
    show (if acc ++ [m] = [] then none else _) = _
    rw [if_neg (by simp)]
    have e : (acc ++ [m]).dropLast ++ [(acc ++ [m]).getLastD [] ++ [x]] = acc ++ [m ++ [x]] := by simp
    rw [e, parse_sides rest l (m ++ [x]) fun y hy => h y (List.mem_cons_of_mem _ hy)]
    simp
theorem parse_plan (rest : List UInt8) : ∀ (rs acc : List (List Sd)), (∀ l ∈ rs, ∀ x ∈ l, okSd x) → parseF acc (planText rs ++ rest) = parseF (acc ++ rs) rest
  | [], acc, _ => by rw [List.append_nil]; rfl
  | l :: rs, acc, h => by
    have e : planText (l :: rs) ++ rest = ringW ++ 10 :: (unl (l.map lineOf) ++ (planText rs ++ rest)) := by
      simp [planText, planLines, lns, unl]
    rw [e, parseF_at _ (by decide), if_pos rfl, parse_sides _ l [] (h l (List.mem_cons_self ..)), parse_plan rest rs _ fun m hm => h m (List.mem_cons_of_mem _ hm)]
    simp
/-- What is printed is read back. -/
theorem parse_print {rs : List (List Sd)} (h : ∀ l ∈ rs, ∀ x ∈ l, okSd x) : parseF [] (planText rs) = some rs := by
  have := parse_plan [] rs [] h
  rw [List.append_nil] at this
  rw [this, parseF_nil]; rfl
end Go.Proofs.YtnpfkmbcejgnjaaGreatDoor
