import Derived.Test.YtldgldibkibknaaJoins
namespace Go.Proofs.Ytldgldibkibknaa
open Go.RowKit

/-- The plain law of BitsFew: a number's lowest z bits, and these with a sign. -/
theorem few_plain (y : Int) (z : Nat) (h1 : 1 ≤ z) (h63 : z ≤ 63) (hy : -9223372036854775808 ≤ y ∧ y ≤ 9223372036854775807) (r : Nat) (hr : uw y % 2 ^ z = r) (s : Int) (hs : sgn r z = s) (H : Nat) (hH : 2 ^ (z - 1) = H) :
    -(H : Int) ≤ s ∧ s < H ∧ (s = y ↔ (-(H : Int) ≤ y ∧ y < H)) ∧ uw s % 2 ^ z = r ∧ H ≤ 4611686018427387904 ∧ r < 2 * H := by
  have e2 : 2 ^ z = 2 * H := by rw [← hH, ← Nat.pow_succ']; congr 1; omega
  have hd : (2 * H) ∣ 18446744073709551616 := by rw [← e2]; exact (Nat.pow_dvd_pow_iff_le_right (x := 2) (by decide)).2 (show z ≤ 64 by omega)
  have hHp : 0 < H := by rw [← hH]; exact Nat.two_pow_pos _
  have hHle : H ≤ 4611686018427387904 := by
    rw [← hH]; exact Nat.pow_le_pow_right (n := 2) (by decide) (show z - 1 ≤ 62 by omega)
  have hrl : r < 2 * H := by rw [← hr, e2]; exact Nat.mod_lt _ (by omega)
  have hs' : s = if 2 * r < 2 * H then (r : Int) else (r : Int) - 2 * H := by
    rw [← hs]; unfold sgn
    rw [e2]
    have : ((2 : Int) ^ z) = ((2 ^ z : Nat) : Int) := by simp
    rw [this, e2]; simp
  have hri : (r : Int) = y % ((2 * H : Nat) : Int) := by
    rw [← hr, e2]
    have : ((uw y : Nat) : Int) = y % 18446744073709551616 := by unfold uw; omega
    rw [Int.natCast_emod, this]
    exact Int.emod_emod_of_dvd y (Int.natCast_dvd_natCast.2 hd)
  have hb : -(H : Int) ≤ s ∧ s < H := by rw [hs']; split <;> constructor <;> omega
  refine ⟨hb.1, hb.2, ⟨fun e => by rw [← e]; exact hb, fun ⟨ha, hc⟩ => ?_⟩, ?_, hHle, hrl⟩
  · rcases Int.lt_or_le y 0 with hn | hn
    · have : y % ((2 * H : Nat) : Int) = y + ((2 * H : Nat) : Int) := by
        rw [← Int.add_emod_right]
        exact Int.emod_eq_of_lt (by omega) (by omega)
      rw [hs', if_neg (by omega)]
      omega
    · have : y % ((2 * H : Nat) : Int) = y := Int.emod_eq_of_lt hn (by omega)
      rw [hs', if_pos (by omega)]
      omega
  · rw [e2, hs']
    obtain ⟨q, hq⟩ := hd
    split
    · have : uw (r : Int) = r := by unfold uw; omega
      rw [this]; exact Nat.mod_eq_of_lt hrl
    · have : uw ((r : Int) - 2 * H) = r + 2 * H * (q - 1) := by
        unfold uw
        have hq1 : 1 ≤ q := by
          rcases Nat.eq_zero_or_pos q with h | h
          · subst h; omega
          · exact h
        have e : 2 * H * (q - 1) + 2 * H = 18446744073709551616 := by
          rw [hq, ← Nat.mul_succ]; congr 1; omega
        generalize 2 * H * (q - 1) = m at *
        omega
      rw [this, Nat.add_mul_mod_self_left]; exact Nat.mod_eq_of_lt hrl
theorem i64_andFFFF (n : Int) : bits .and .i64 n 65535 = n % 65536 := by
  have h127 : (BitVec.ofInt 64 65535).toNat = 2 ^ 16 - 1 := by decide
  have key : (BitVec.ofInt 64 n &&& BitVec.ofInt 64 65535).toNat = (n % ((2 ^ 64 : Nat) : Int)).toNat % 2 ^ 16 := by
    rw [BitVec.toNat_and, BitVec.toNat_ofInt, h127, Nat.and_two_pow_sub_one_eq_mod]
  show IntKind.i64.wrap ((BitVec.ofInt 64 n &&& BitVec.ofInt 64 65535).toNat : Nat) = n % 65536
  rw [key, IntKind.wrap_i64]
  omega
theorem and_low (a z : Nat) (ha : a < 18446744073709551616) (hz : z ≤ 63) : bits .and .u64 (a : Int) ((2 ^ z - 1 : Nat) : Int) = ((a % 2 ^ z : Nat) : Int) := by
  have hp : 2 ^ z ≤ 2 ^ 63 := Nat.pow_le_pow_right (by decide) hz
  rw [bits_and_u64_nat a _ ha (by omega), Nat.and_two_pow_sub_one_eq_mod]
end Go.Proofs.Ytldgldibkibknaa
