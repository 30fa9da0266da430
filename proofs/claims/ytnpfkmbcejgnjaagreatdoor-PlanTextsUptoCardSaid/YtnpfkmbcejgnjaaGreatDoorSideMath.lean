/-
  Plain facts: the side of a line, word by word.
-/
import Derived.Test.YtnpfkmbcejgnjaaGreatDoorTextMath
namespace Go.Proofs.YtnpfkmbcejgnjaaGreatDoor
open Go Go.Lib
def gabL (l : List UInt8) : Bool := decide ((splt 32 l).length = 5 ∧ (splt 32 l)[2]? = some gableW)
def offsG (G : Bool) : List Nat := if G then [0, 1, 5, 6] else [0, 1, 2, 3, 5, 6]
def wsG (G : Bool) (ws : List (List UInt8)) : List (List UInt8) := if G then ws.take 2 ++ ws.drop 3 else ws
def setF (s : Sd) (j : Nat) (v : Int) : Sd := match j with
  | 0 => { s with x := v }
  | 1 => { s with y := v }
  | 2 => { s with rise := v }
  | 3 => { s with run := v }
  | 5 => { s with plate := v }
  | 6 => { s with over := v }
  | _ => s
def sdTo (G : Bool) (ws : List (List UInt8)) : Nat → Sd
  | 0 => ⟨0, 0, 0, 0, G, 0, 0⟩
  | k + 1 => setF (sdTo G ws k) ((offsG G).getD k 0) ((numW (ws.getD k [])).getD 0)
theorem numsW_len : ∀ {ws : List (List UInt8)} {ns : List Int}, numsW ws = some ns → ns.length = ws.length := fun h => by
  rw [(numsW_iff.1 h).1, List.length_map]
theorem numsW_none : ∀ {ws : List (List UInt8)} {k : Nat}, k < ws.length → numW (ws.getD k []) = none → numsW ws = none
  | [], _, h, _ => absurd h (Nat.not_lt_zero _)
  | w :: ws, 0, _, h => by
    have h' : numW w = none := h
    show (match numW w, numsW ws with | some n, some ns => some (n :: ns) | _, _ => none) = none
    rw [h']
  | w :: ws, k + 1, hk, h => by
    have ih := numsW_none (ws := ws) (k := k) (by simpa using hk) h
    show (match numW w, numsW ws with | some n, some ns => some (n :: ns) | _, _ => none) = none
    rw [ih]
    cases numW w <;> rfl
def mkG (G : Bool) : List Int → Option Sd
  | [a, b, c, d] => if G then some ⟨a, b, 0, 0, true, c, d⟩ else none
  | [a, b, c, d, e, f] => if G then none else some ⟨a, b, c, d, false, e, f⟩
  | _ => none
theorem sideP_eq (l : List UInt8) : sideP l = (numsW (wsG (gabL l) (splt 32 l))).bind (mkG (gabL l)) := by
  unfold sideP
  by_cases h : (splt 32 l).length = 5 ∧ (splt 32 l)[2]? = some gableW
  · have hg : gabL l = true := decide_eq_true h
    rw [if_pos h, hg]
    show _ = (numsW ((splt 32 l).take 2 ++ (splt 32 l).drop 3)).bind (mkG true)
    have hlen : ((splt 32 l).take 2 ++ (splt 32 l).drop 3).length = 4 := by rw [List.length_append, List.length_take, List.length_drop]; omega
    cases hn : numsW ((splt 32 l).take 2 ++ (splt 32 l).drop 3) with
    | none => rfl
    | some ns =>
      have := numsW_len hn
      rw [hlen] at this
      match ns, this with
      | [a, b, c, d], _ => rfl
  · have hg : gabL l = false := decide_eq_false h
    rw [if_neg h, hg]
    show _ = (numsW (splt 32 l)).bind (mkG false)
    cases hn : numsW (splt 32 l) with
    | none => rfl
    | some ns =>
      match ns with
      | [] => rfl
      | [_] => rfl
      | [_, _] => rfl
      | [_, _, _] => rfl
      | [_, _, _, _] => rfl
      | [_, _, _, _, _] => rfl
      | [_, _, _, _, _, _] => rfl
      | _ :: _ :: _ :: _ :: _ :: _ :: _ :: _ => rfl
theorem sideP_len {l : List UInt8} (h : (wsG (gabL l) (splt 32 l)).length ≠ (offsG (gabL l)).length) : sideP l = none := by
  rw [sideP_eq]
  generalize wsG (gabL l) (splt 32 l) = ws at *
  cases hn : numsW ws with
  | none => rfl
  | some ns =>
    have hl := numsW_len hn
    rw [← hl] at h
    cases hg : gabL l <;> rw [hg] at h
    · match ns, h with
      | [], _ => rfl
      | [_], _ => rfl
      | [_, _], _ => rfl
      | [_, _, _], _ => rfl
      | [_, _, _, _], _ => rfl
      | [_, _, _, _, _], _ => rfl
      | [_, _, _, _, _, _], h => exact absurd rfl h
      | _ :: _ :: _ :: _ :: _ :: _ :: _ :: _, _ => rfl
    · match ns, h with
      | [], _ => rfl
      | [_], _ => rfl
      | [_, _], _ => rfl
      | [_, _, _], _ => rfl
      | [_, _, _, _], h => exact absurd rfl h
      | [_, _, _, _, _], _ => rfl
      | [_, _, _, _, _, _], _ => rfl
      | _ :: _ :: _ :: _ :: _ :: _ :: _ :: _, _ => rfl
theorem sideP_bad {l : List UInt8} {k : Nat} (hk : k < (wsG (gabL l) (splt 32 l)).length) (h : numW ((wsG (gabL l) (splt 32 l)).getD k []) = none) : sideP l = none := by
  rw [sideP_eq, numsW_none hk h]; rfl
theorem sideP_all {l : List UInt8} (hlen : (wsG (gabL l) (splt 32 l)).length = (offsG (gabL l)).length) (hall : ∀ k, k < (offsG (gabL l)).length → numW ((wsG (gabL l) (splt 32 l)).getD k []) ≠ none) :
    sideP l = some (sdTo (gabL l) (wsG (gabL l) (splt 32 l)) (offsG (gabL l)).length) := by
  rw [sideP_eq]
  generalize wsG (gabL l) (splt 32 l) = ws at *
  have get : ∀ k, k < (offsG (gabL l)).length → ∃ n, numW (ws.getD k []) = some n := fun k hk => by
    cases h : numW (ws.getD k []) with
    | none => exact absurd h (hall k hk)
    | some n => exact ⟨n, rfl⟩
  generalize gabL l = G at *
  cases G
  · have hl : ws.length = 6 := hlen
    match ws, hl with
    | [w0, w1, w2, w3, w4, w5], _ =>
      obtain ⟨n0, e0⟩ := get 0 (by decide)
      obtain ⟨n1, e1⟩ := get 1 (by decide)
      obtain ⟨n2, e2⟩ := get 2 (by decide)
      obtain ⟨n3, e3⟩ := get 3 (by decide)
      obtain ⟨n4, e4⟩ := get 4 (by decide)
      obtain ⟨n5, e5⟩ := get 5 (by decide)
      have a0 : numW w0 = some n0 := e0
      have a1 : numW w1 = some n1 := e1
      have a2 : numW w2 = some n2 := e2
      have a3 : numW w3 = some n3 := e3
      have a4 : numW w4 = some n4 := e4
      have a5 : numW w5 = some n5 := e5
      have h1 : numsW [w0, w1, w2, w3, w4, w5] = some [n0, n1, n2, n3, n4, n5] := by simp only [numsW, a0, a1, a2, a3, a4, a5]
      have h2 : sdTo false [w0, w1, w2, w3, w4, w5] 6 = ⟨n0, n1, n2, n3, false, n4, n5⟩ := by
        simp [sdTo, setF, offsG, a0, a1, a2, a3, a4, a5]
      rw [h1, show (offsG false).length = 6 from rfl, h2]; rfl
  · have hl : ws.length = 4 := hlen
    match ws, hl with
    | [w0, w1, w2, w3], _ =>
      obtain ⟨n0, e0⟩ := get 0 (by decide)
      obtain ⟨n1, e1⟩ := get 1 (by decide)
      obtain ⟨n2, e2⟩ := get 2 (by decide)
      obtain ⟨n3, e3⟩ := get 3 (by decide)
      have a0 : numW w0 = some n0 := e0
      have a1 : numW w1 = some n1 := e1
      have a2 : numW w2 = some n2 := e2
      have a3 : numW w3 = some n3 := e3
      have h1 : numsW [w0, w1, w2, w3] = some [n0, n1, n2, n3] := by simp only [numsW, a0, a1, a2, a3]
      have h2 : sdTo true [w0, w1, w2, w3] 4 = ⟨n0, n1, 0, 0, true, n2, n3⟩ := by
        simp [sdTo, setF, offsG, a0, a1, a2, a3]
      rw [h1, show (offsG true).length = 4 from rfl, h2]; rfl
theorem offsG_mem (G : Bool) {k : Nat} (hk : k < (offsG G).length) : (offsG G).getD k 0 = 0 ∨ (offsG G).getD k 0 = 1 ∨ (offsG G).getD k 0 = 2 ∨ (offsG G).getD k 0 = 3 ∨ (offsG G).getD k 0 = 5 ∨ (offsG G).getD k 0 = 6 := by
  have h : ∀ j ∈ offsG G, j = 0 ∨ j = 1 ∨ j = 2 ∨ j = 3 ∨ j = 5 ∨ j = 6 := by cases G <;> decide
  rw [List.getD_eq_getElem?_getD, List.getElem?_eq_getElem hk]
  exact h _ (List.getElem_mem hk)
theorem numW_ok {w : List UInt8} {n : Int} (h : atoiAll w = .ok n) : numW w = if n < 0 ∨ 9 < w.length ∨ itoa n ≠ w then none else some n := by
  unfold numW
  rw [h]
theorem numW_no {w : List UInt8} (h : ∀ n, atoiAll w ≠ .ok n) : numW w = none := by
  unfold numW
  split
  · rename_i n hn
    exact absurd hn (h n)
  · rfl
end Go.Proofs.YtnpfkmbcejgnjaaGreatDoor
