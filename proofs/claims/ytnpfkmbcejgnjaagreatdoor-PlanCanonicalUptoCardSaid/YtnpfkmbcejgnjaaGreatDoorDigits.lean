/-
  Decimal numerals: plain facts.
-/
import Derived.Lib.ItoaNum
import Derived.Lib.AtoiAll
import Derived.Lib.SlTrimSet
import Derived.Lib.Strings
namespace Go.Proofs.YtnpfkmbcejgnjaaGreatDoor
open Go Go.Lib
theorem digit_nat {d : Nat} (h : d < 10) : (UInt8.ofNat (48 + d)).toNat = 48 + d := by
  rw [UInt8.toNat_ofNat']; omega
theorem dd_digits (u : Nat) : ∀ b ∈ decDigits u, 48 ≤ b.toNat ∧ b.toNat ≤ 57 := by
  induction u using Nat.strongRecOn with
  | _ u ih =>
    intro b hb
    rw [decDigits] at hb
    split at hb
    · obtain rfl := List.mem_singleton.1 hb
      rw [digit_nat (by omega)]; omega
    · rcases List.mem_append.1 hb with hb | hb
      · exact ih (u / 10) (by omega) b hb
      · obtain rfl := List.mem_singleton.1 hb
        rw [digit_nat (Nat.mod_lt _ (by omega))]; omega
theorem dd_ne (u : Nat) : decDigits u ≠ [] := by
  rw [decDigits]
  split
  · simp
  · simp
theorem dd_head (u : Nat) (hu : u ≠ 0) : ∃ b r, decDigits u = b :: r ∧ b.toNat ≠ 48 := by
  induction u using Nat.strongRecOn with
  | _ u ih =>
    by_cases h : u < 10
    · exact ⟨_, [], by rw [decDigits, dif_pos h], by rw [digit_nat h]; omega⟩
    · obtain ⟨b, r, h1, h2⟩ := ih (u / 10) (by omega) (by omega)
      exact ⟨b, r ++ [UInt8.ofNat (48 + u % 10)], by rw [decDigits, dif_neg h, h1]; rfl, h2⟩
theorem dd_zero : decDigits 0 = [48] := by rw [decDigits, dif_pos (by omega)]; rfl
theorem dd_len : ∀ (k u : Nat), 1 ≤ k → u < 10 ^ k → (decDigits u).length ≤ k
  | 0, _, h, _ => by omega
  | 1, u, _, h => by rw [decDigits, dif_pos (by simpa using h)]; simp
  | k + 2, u, _, h => by
    rw [decDigits]
    split
    · simp
    · rw [List.length_append]
      have := dd_len (k + 1) (u / 10) (by omega) (by rw [Nat.pow_succ] at h; omega)
      simp only [List.length_cons, List.length_nil]; omega
theorem parse_snoc (c : UInt8) : ∀ (l : List UInt8) (acc : Nat), parseUint10 acc (l ++ [c]) = match parseUint10 acc l with | .ok v => parseUint10 v [c] | NumEnd.syntax => NumEnd.syntax | .range => .range
  | [], acc => rfl
  | b :: l, acc => by
    show parseUint10 acc (b :: (l ++ [c])) = _
    unfold parseUint10
    split
    · split
      · rfl
      · split
        · rfl
        · exact parse_snoc c l _
    · rfl
theorem parse_dd (u : Nat) (h : u < 18446744073709551610) : parseUint10 0 (decDigits u) = .ok u := by
  induction u using Nat.strongRecOn with
  | _ u ih =>
    by_cases hu : u < 10
    · rw [decDigits, dif_pos hu]
      simp only [parseUint10]
      rw [digit_nat hu, if_pos (by omega), if_neg (by omega), if_neg (by omega)]
      congr 1; omega
    · rw [decDigits, dif_neg hu, parse_snoc, ih (u / 10) (by omega) (by omega)]
      simp only [parseUint10]
      rw [digit_nat (Nat.mod_lt _ (by omega)), if_pos (by omega), if_neg (by omega), if_neg (by omega)]
      congr 1; omega
theorem first_digit (u : Nat) : ∃ b r, decDigits u = b :: r ∧ 48 ≤ b.toNat ∧ b.toNat ≤ 57 := by
  cases hd : decDigits u with
  | nil => exact absurd hd (dd_ne u)
  | cons b r => exact ⟨b, r, rfl, dd_digits u b (by rw [hd]; exact List.mem_cons_self ..)⟩
theorem atoi_itoa (n : Int) (h1 : -4611686018427387904 < n) (h2 : n < 4611686018427387904) : atoiAll (itoa n) = .ok n := by
  unfold itoa
  split
  · rename_i hn
    show (match parseMag (if (45 : UInt8).toNat = 43 ∨ (45 : UInt8).toNat = 45 then decDigits n.natAbs else 45 :: decDigits n.natAbs) with | NumEnd.syntax => _ | .range => _ | .ok u => _) = _
    rw [if_pos (by decide)]
    unfold parseMag
    rw [if_neg (dd_ne _), parse_dd _ (by omega)]
    show (if ¬ ((45 : UInt8).toNat = 45) ∧ 9223372036854775808 ≤ n.natAbs then _ else if (45 : UInt8).toNat = 45 ∧ 9223372036854775808 < n.natAbs then _ else _) = _
    rw [if_neg (fun h => h.1 (by decide)), if_neg (by omega), if_pos (by decide)]
    congr 1; omega
  · rename_i hn
    obtain ⟨b, r, hb, h3, h4⟩ := first_digit n.toNat
    have hp := parse_dd n.toNat (by omega)
    rw [hb] at hp ⊢
    unfold atoiAll
    simp only
    rw [if_neg (by omega)]
    unfold parseMag
    rw [if_neg (by simp), hp]
    simp only
    rw [if_neg (by omega), if_neg (by omega), if_neg (by omega)]
    congr 1; omega
theorem dropAll {l cs : List UInt8} (h : ∀ b ∈ l, cs.contains b = true) : l.dropWhile (cs.contains ·) = [] := by
  induction l with
  | nil => rfl
  | cons b l ih =>
    rw [List.dropWhile_cons, if_pos (h b (List.mem_cons_self ..))]
    exact ih fun x hx => h x (List.mem_cons_of_mem _ hx)
def tenDigits : List UInt8 := [48, 49, 50, 51, 52, 53, 54, 55, 56, 57]
theorem ten_has {b : UInt8} (h1 : 48 ≤ b.toNat) (h2 : b.toNat ≤ 57) : tenDigits.contains b = true := by
  have : ∀ n : Fin 10, tenDigits.contains (UInt8.ofNat (48 + n.val)) = true := by decide
  have e : b = UInt8.ofNat (48 + (b.toNat - 48)) := by
    rw [show 48 + (b.toNat - 48) = b.toNat by omega]; simp
  rw [e]
  exact this ⟨b.toNat - 48, by omega⟩
theorem trim_dd (u : Nat) : trimS (decDigits u) tenDigits = [] := by
  have h : trimRightS (decDigits u) tenDigits = [] := by
    unfold trimRightS
    rw [dropAll fun b hb => by
      have := dd_digits u b (List.mem_reverse.1 hb)
      exact ten_has this.1 this.2]
    rfl
  unfold trimS
  rw [h]; rfl
theorem trimPrefix_itoa (n : Int) : trimPrefix (itoa n) [45] = decDigits n.natAbs := by
  unfold itoa
  split
  · rename_i hn
    rfl
  · rename_i hn
    rw [show n.toNat = n.natAbs by omega]
    obtain ⟨b, r, hb, h3, h4⟩ := first_digit n.natAbs
    rw [hb]
    unfold trimPrefix hasPrefix
    have : ([45] : List UInt8).isPrefixOf (b :: r) = false := by
      have : (45 : UInt8) ≠ b := fun e => by rw [← e] at h3; exact absurd h3 (by decide)
      simp [List.isPrefixOf, this]
    rw [this]; rfl
end Go.Proofs.YtnpfkmbcejgnjaaGreatDoor
