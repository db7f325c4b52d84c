import Derived.Test.YtldgldibkibknaaShown
namespace Go.Proofs.Ytldgldibkibknaa
open Go.RowKit

theorem obit_pk (bs : List Bool) (N k : Nat) (hk : k < 8 * N) : obit (pk bs N) k = bi bs k := by
  have h8 : k / 8 < N := by omega
  have e : (pk bs N).getD (k / 8) 0 = by8 bs (k / 8) := by simp [pk, h8]
  unfold obit
  rw [e]
  have hr : k % 8 < 8 := Nat.mod_lt _ (by decide)
  have hd : 8 * (k / 8) + k % 8 = k := Nat.div_add_mod _ _
  generalize k / 8 = q at *
  generalize k % 8 = r at *
  subst hd
  have := bi_le bs (8*q); have := bi_le bs (8*q+1); have := bi_le bs (8*q+2); have := bi_le bs (8*q+3); have := bi_le bs (8*q+4); have := bi_le bs (8*q+5); have := bi_le bs (8*q+6); have := bi_le bs (8*q+7)
  unfold by8
  rcases (by omega : r = 0 ∨ r = 1 ∨ r = 2 ∨ r = 3 ∨ r = 4 ∨ r = 5 ∨ r = 6 ∨ r = 7) with h | h | h | h | h | h | h | h <;> subst h <;> simp only [Nat.add_zero, Nat.sub_zero, Nat.reduceSub, Nat.reducePow] <;> omega
/-- n bits from a on, as a number. -/
def bnum (bs : List Bool) (a : Nat) : Nat → Nat
  | 0 => 0
  | n + 1 => bnum bs a n * 2 + bi bs (a + n)
theorem num_pk (bs : List Bool) (N a n : Nat) (h : a + n ≤ 8 * N) : num (pk bs N) a n = bnum bs a n := by
  induction n with
  | zero => rfl
  | succ n ih => rw [num, bnum, ih (by omega), obit_pk bs N _ (by omega)]
theorem bi_mid (p q r : List Bool) (j : Nat) (hj : j < q.length) : bi (p ++ q ++ r) (p.length + j) = bi q j := by
  have e : (p ++ q ++ r).getD (p.length + j) false = q.getD j false := by
    simp only [List.getD, List.append_assoc]
    rw [List.getElem?_append_right (by omega), Nat.add_sub_cancel_left, List.getElem?_append_left hj]
  unfold bi; rw [e]
theorem bi_hb (X m j : Nat) (hj : j < m) : bi (hb X m) j = X / 2 ^ (m - 1 - j) % 2 := by
  have e : (hb X m).getD j false = X.testBit (m - 1 - j) := by simp [hb, ht, hj]
  unfold bi
  rw [e, Nat.testBit_eq_decide_div_mod_eq]
  by_cases h : X / 2 ^ (m - 1 - j) % 2 = 1
  · simp [h]
  · have : X / 2 ^ (m - 1 - j) % 2 = 0 := by omega
    simp [this]
theorem hb_len (X m : Nat) : (hb X m).length = m := ht_len X m m
theorem bnum_hb (p r : List Bool) (X m k : Nat) (hk : k ≤ m) : bnum (p ++ hb X m ++ r) p.length k = X % 2 ^ m / 2 ^ (m - k) := by
  induction k with
  | zero => simp only [bnum, Nat.sub_zero]; exact (Nat.div_eq_of_lt (Nat.mod_lt _ (Nat.two_pow_pos m))).symm
  | succ k ih =>
    rw [bnum, ih (by omega), bi_mid p _ r k (by rw [hb_len]; omega), bi_hb X m k (by omega)]
    have e1 : m - k = (m - (k + 1)) + 1 := by omega
    have e2 : m - 1 - k = m - (k + 1) := by omega
    rw [e1, e2]
    generalize hs : m - (k + 1) = s
    rw [Nat.pow_succ, ← Nat.div_div_eq_div_mul]
    have e3 : X / 2 ^ s % 2 = X % 2 ^ m / 2 ^ s % 2 := by
      have h1 := Nat.testBit_mod_two_pow X m s
      rw [Nat.testBit_eq_decide_div_mod_eq, Nat.testBit_eq_decide_div_mod_eq, decide_eq_true (show s < m by omega), Bool.true_and] at h1
      have := decide_eq_decide.1 h1
      omega
    rw [e3]
    omega
theorem bnum_all (p r : List Bool) (X m : Nat) : bnum (p ++ hb X m ++ r) p.length m = X % 2 ^ m := by
  rw [bnum_hb p r X m m (Nat.le_refl _), Nat.sub_self, Nat.pow_zero, Nat.div_one]
theorem hb_split (X m c : Nat) (hc : c ≤ m) : hb X m = hb (X / 2 ^ c) (m - c) ++ hb X c := by
  refine List.ext_getElem? fun i => ?_
  by_cases h : i < m - c
  · rw [List.getElem?_append_left (by rw [hb_len]; exact h)]
    simp only [hb, ht, List.getElem?_map]
    rw [List.getElem?_range (by omega), List.getElem?_range h]
    simp only [Option.map_some, Nat.testBit_div_two_pow]
    congr 2; omega
  · rw [List.getElem?_append_right (by rw [hb_len]; omega), hb_len]
    by_cases h2 : i < m
    · simp only [hb, ht, List.getElem?_map]
      rw [List.getElem?_range (by omega), List.getElem?_range (by omega)]
      simp only [Option.map_some]
      congr 2; omega
    · rw [List.getElem?_eq_none (by rw [hb_len]; omega), List.getElem?_eq_none (by rw [hb_len]; omega)]
theorem hb_mod (X m c : Nat) (hc : c ≤ m) : hb (X % 2 ^ m) c = hb X c := by
  unfold hb ht
  refine List.map_congr_left fun j hj => ?_
  rw [Nat.testBit_mod_two_pow]
  have := List.mem_range.1 hj
  rw [decide_eq_true (by omega), Bool.true_and]
end Go.Proofs.Ytldgldibkibknaa
