/-
  Whole bytes as bits: the plain law.
-/
import Derived.Test.YtldgldibkibknaaApart
namespace Go.Proofs.Ytldgldibkibknaa
open Go.RowKit

/-- Bytes as bits. -/
def flat (l : List Nat) : List Bool := l.flatMap fun x => hb x 8
theorem flat_nil : flat [] = [] := rfl
theorem flat_cons (x : Nat) (r : List Nat) : flat (x :: r) = hb x 8 ++ flat r := rfl
theorem flat_len : ∀ l : List Nat, (flat l).length = 8 * l.length
  | [] => rfl
  | x :: r => by rw [flat_cons, List.length_append, hb_len, flat_len r, List.length_cons]; omega
theorem flat_app (a b : List Nat) : flat (a ++ b) = flat a ++ flat b := by simp [flat]
theorem flat_take (l : List Nat) (k : Nat) (h : k < l.length) : flat (l.take (k + 1)) = flat (l.take k) ++ hb l[k] 8 := by
  rw [List.take_succ_eq_append_getElem h, flat_app]
  simp [flat]
theorem flat_at (l : List Nat) (k : Nat) (h : k < l.length) : flat l = flat (l.take k) ++ hb l[k] 8 ++ flat (l.drop (k + 1)) := by
  rw [← flat_take l k h, ← flat_app, List.take_append_drop]
theorem flat_at2 (l : List Nat) (k : Nat) (h : k + 1 < l.length) (hx : l[k + 1] < 256) : flat l = flat (l.take k) ++ hb (l[k] * 256 + l[k + 1]) 16 ++ flat (l.drop (k + 2)) := by
  have e : hb (l[k] * 256 + l[k + 1]) 16 = hb l[k] 8 ++ hb l[k + 1] 8 := by
    rw [hb_split (l[k] * 256 + l[k + 1]) 16 8 (by decide)]
    have e1 : (l[k] * 256 + l[k + 1]) / 2 ^ 8 = l[k] := by simp only [Nat.reducePow]; omega
    have e2 : hb (l[k] * 256 + l[k + 1]) 8 = hb l[k + 1] 8 := by
      rw [← hb_mod _ 8 8 (Nat.le_refl _)]
      have : (l[k] * 256 + l[k + 1]) % 2 ^ 8 = l[k + 1] := by simp only [Nat.reducePow]; omega
      rw [this]
    rw [e1, e2]
  rw [e, ← List.append_assoc, ← flat_take l k (by omega), ← flat_take l (k + 1) h, ← flat_app]
  rw [List.take_append_drop]
theorem by8_bnum (bs : List Bool) (i : Nat) : by8 bs i = bnum bs (8 * i) 8 := by
  unfold by8
  simp only [bnum, Nat.add_zero]
  omega
theorem pk_flat (l : List Nat) (h : ∀ x ∈ l, x < 256) : pk (flat l) l.length = l := by
  refine List.ext_getElem? fun i => ?_
  by_cases hi : i < l.length
  · have e : (pk (flat l) l.length)[i]? = some (by8 (flat l) i) := by simp [pk, hi]
    rw [e, List.getElem?_eq_getElem hi, by8_bnum]
    have hl : (flat (l.take i)).length = 8 * i := by rw [flat_len, List.length_take]; congr 1; omega
    have h2 := bnum_all (flat (l.take i)) (flat (l.drop (i + 1))) l[i] 8
    rw [hl, ← flat_at l i hi] at h2
    rw [h2]
    have := h _ (List.getElem_mem hi)
    simp only [Nat.reducePow]
    rw [Nat.mod_eq_of_lt this]
  · rw [List.getElem?_eq_none (by rw [pk_len]; omega), List.getElem?_eq_none (by omega)]
theorem num8 (l : List Nat) (h : ∀ x ∈ l, x < 256) (i : Nat) (hi : i < l.length) : num l (8 * i) 8 = l[i] := by
  have e : num (pk (flat l) l.length) (8 * i) 8 = bnum (flat l) (8 * i) 8 := num_pk _ _ _ _ (by omega)
  rw [pk_flat l h] at e
  have hl : (flat (l.take i)).length = 8 * i := by rw [flat_len, List.length_take]; congr 1; omega
  have h2 := bnum_all (flat (l.take i)) (flat (l.drop (i + 1))) l[i] 8
  rw [hl, ← flat_at l i hi] at h2
  rw [e, h2]
  have := h _ (List.getElem_mem hi)
  simp only [Nat.reducePow]
  rw [Nat.mod_eq_of_lt this]
theorem num16 (l : List Nat) (h : ∀ x ∈ l, x < 256) (i : Nat) (hi : i + 1 < l.length) : num l (8 * i) 16 = l[i] * 256 + l[i + 1] := by
  have e : num (pk (flat l) l.length) (8 * i) 16 = bnum (flat l) (8 * i) 16 := num_pk _ _ _ _ (by omega)
  rw [pk_flat l h] at e
  have hl : (flat (l.take i)).length = 8 * i := by rw [flat_len, List.length_take]; congr 1; omega
  have hx := h _ (List.getElem_mem (by omega : i < l.length))
  have hy := h _ (List.getElem_mem hi)
  have h2 := bnum_all (flat (l.take i)) (flat (l.drop (i + 2))) (l[i] * 256 + l[i + 1]) 16
  rw [hl, ← flat_at2 l i hi hy] at h2
  rw [e, h2]
  simp only [Nat.reducePow]
  rw [Nat.mod_eq_of_lt (by omega)]
theorem got_yes (l : List Nat) (a n : Nat) (h : a + n ≤ 8 * l.length) : got l a n = (num l a n, true, a + n) := by unfold got; rw [if_pos h]
theorem u64_or_byte (x y : Nat) (hx : x < 256) (hy : y < 256) : bits .or .u64 ((x * 256 : Nat) : Int) (y : Int) = ((x * 256 + y : Nat) : Int) := by
  rw [bits_or_u64_nat _ _ (by omega) (by omega)]
  have := Nat.two_pow_add_eq_or_of_lt (i := 8) (b := y) (by simpa using hy) x
  simp only [Nat.reducePow] at this
  rw [Nat.mul_comm, this]
end Go.Proofs.Ytldgldibkibknaa
