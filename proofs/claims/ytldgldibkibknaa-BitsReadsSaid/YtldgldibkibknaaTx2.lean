import Derived.Test.YtldgldibkibknaaTx
namespace Go.Proofs.Ytldgldibkibknaa
open Go.RowKit

theorem str_get (l : List Nat) (k : Nat) (h : k < l.length) (h2 : k < (str l).size) (hx : l[k] < 256) : ((str l)[k]'h2).toNat = l[k] := by
  show (((l.map UInt8.ofNat).toArray)[k]'(by simpa using h)).toNat = l[k]
  simp
  omega
theorem idx_run (l : List Nat) (S : ByteArray) (hS : S = str l) (k : Nat) (h : k < l.length) (hx : l[k] < 256) (W : World) : (Instr.index 9 (.string S) (.int .i64 (k : Int))).run Try.prog W = .ok (.int .u8 ((l[k] : Nat) : Int)) W := by
  subst hS
  rw [run_index_string W 9 (str l) .i64 k Try.underlying9]
  have h2 : (0 : Int) ≤ k ∧ (k : Int) < (str l).size := by rw [str_size]; omega
  rw [dif_pos h2]
  have := str_get l k h (by rw [str_size]; exact h) hx
  congr 3
theorem bidx_run (bs : List Bool) (S : ByteArray) (hS : S = tx bs) (k : Nat) (h : k < bs.length) (W : World) : (Instr.index 9 (.string S) (.int .i64 (k : Int))).run Try.prog W = .ok (.int .u8 (48 + (bi bs k : Int))) W := by
  have hl : k < (bs.map fun b : Bool => if b then (49 : Nat) else 48).length := by simpa using h
  have he : (bs.map fun b : Bool => if b then (49 : Nat) else 48)[k] = 48 + bi bs k := by
    rw [List.getElem_map]
    unfold bi
    rw [List.getD_eq_getElem?_getD, List.getElem?_eq_getElem h]
    simp only [Option.getD_some]
    split <;> rfl
  have := idx_run (bs.map fun b : Bool => if b then (49 : Nat) else 48) S hS k hl (by rw [he]; have := bi_le bs k; omega) W
  rw [this, he]
  congr 2
theorem bnum_lt (bs : List Bool) (a n : Nat) : bnum bs a n < 2 ^ n := by
  induction n with
  | zero => simp [bnum]
  | succ n ih => have := bi_le bs (a + n); rw [Nat.pow_succ]; simp only [bnum]; omega

set_option maxRecDepth 100000 in
set_option maxHeartbeats 1500000 in
theorem number_calls (bs : List Bool) (S : ByteArray) (hS : S = tx bs) (hl : bs.length ≤ 64) (w : World) :
    Calls Try.prog 24 #[.string S] w fun e w' => e = .returned (.int .u64 (bnum bs 0 bs.length : Nat)) ∧ w' = w := by
  have HB : Hid (∀ (k : Nat), k < bs.length → ∀ W : World, (Instr.index 9 (.string S) (.int .i64 (k : Int))).run Try.prog W = .ok (.int .u8 (48 + (bi bs k : Int))) W) := Lib.hid (fun k h => bidx_run bs S hS k h)
  obtain ⟨m, hm⟩ : ∃ m, bs.length = m := ⟨_, rfl⟩
  have hsz : (S.size : Int) = (m : Int) := by rw [hS, tx_size, hm]
  have hsz2 : S.size = m := by rw [hS, tx_size, hm]
  rw [hm] at HB hl ⊢
  clear hm hS
  go_enter Try.func24, Try.ntmps24
  go_wp2_with fail
  go_loopw [3, 4] (fun nv ivv wr => ∃ (k M : Nat), k ≤ m ∧ nv = .int .u64 M ∧ ivv = .int .i64 k ∧ Hid (bnum bs 0 k = M) ∧ wr = w) (fun _ i _ => m - (iv i).toNat)
  case atStart => exact ⟨0, 0, by omega, rfl, rfl, Lib.hid rfl, rfl⟩
  case round =>
    obtain ⟨k, M, hk, rfl, rfl, HM, rfl⟩ := hrel
    by_cases hlt : k < m
    · have hM : M < 2 ^ k := by rw [← HM.out]; exact bnum_lt bs 0 k
      have hM2 : M * 2 + 1 < 18446744073709551616 := by
        have : 2 ^ k ≤ 2 ^ 63 := Nat.pow_le_pow_right (by omega) (by omega)
        have e63 : (2 : Nat) ^ 63 = 9223372036854775808 := by decide
        omega
      have hb := bi_le bs k
      have hix := HB.out k hlt
      have HN : Hid (bnum bs 0 (k + 1) = M * 2 + bi bs k) := Lib.hid (by simp only [bnum]; rw [HM.out, Nat.zero_add])
      obtain ⟨b, hbb⟩ : ∃ b, bi bs k = b := ⟨_, rfl⟩
      rw [hbb] at HN hix hb
      clear hM hbb
      have e1 : IntKind.u64.wrap ((M : Int) * 2) = (M : Int) * 2 := by rw [IntKind.wrap_u64]; omega
      have e2 : IntKind.u8.wrap (48 + (b : Int) - 48) = (b : Int) := by rw [IntKind.wrap_u8]; omega
      have e3 : IntKind.u64.wrap (b : Int) = (b : Int) := by rw [IntKind.wrap_u64]; omega
      have e4 : IntKind.u64.wrap ((M : Int) * 2 + (b : Int)) = (M : Int) * 2 + (b : Int) := by rw [IntKind.wrap_u64]; omega
      go_wp2_with fail
      go_roundw
      case rel => exact ⟨k + 1, M * 2 + b, by omega, by go_num, by go_num, HN, trivial⟩
      case measure => simp [iv]; omega
    · obtain rfl : m = k := by omega
      go_wp2_with fail
      go_ret
      exact ⟨by rw [HM.out]; rfl, rfl⟩
end Go.Proofs.Ytldgldibkibknaa
