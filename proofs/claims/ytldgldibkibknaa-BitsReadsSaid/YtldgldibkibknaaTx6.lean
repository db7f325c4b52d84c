/-
  The document's Signed.
-/
import Derived.Test.YtldgldibkibknaaTx5
namespace Go.Proofs.Ytldgldibkibknaa
open Go.RowKit

theorem bnum_head (bs : List Bool) (n : Nat) : bnum bs 0 (n + 1) = bi bs 0 * 2 ^ n + bnum (bs.drop 1) 0 n := by
  induction n with
  | zero => simp [bnum]
  | succ n ih =>
    rw [bnum, ih, bnum, bi_drop, Nat.pow_succ, show 0 + (n + 1) = 1 + (0 + n) by omega]
    generalize 2 ^ n = P
    rw [Nat.add_mul, Nat.mul_assoc]; omega
theorem sgn_zero (v : Nat) (h : v < 2 ^ 0) : sgn v 0 = 0 := by
  unfold sgn
  simp at h
  subst h
  decide
theorem sgn_head0 (bs : List Bool) (n : Nat) (h : bi bs 0 = 0) : sgn (bnum bs 0 (n + 1)) (n + 1) = (bnum bs 0 (n + 1) : Int) := by
  have h1 := bnum_head bs n
  have h2 := bnum_lt (bs.drop 1) 0 n
  rw [h] at h1
  unfold sgn
  rw [if_pos (by rw [h1, Nat.pow_succ]; omega)]
theorem sgn_head1 (bs : List Bool) (n : Nat) (h : bi bs 0 = 1) : sgn (bnum bs 0 (n + 1)) (n + 1) = (bnum bs 0 (n + 1) : Int) - 2 ^ (n + 1) := by
  have h1 := bnum_head bs n
  rw [h] at h1
  unfold sgn
  rw [if_neg (by rw [h1, Nat.pow_succ]; omega)]
theorem sgn_range (v n : Nat) (h : n ≤ 64) (hv : v < 2 ^ n) : -9223372036854775808 ≤ sgn v n ∧ sgn v n ≤ 9223372036854775807 := by
  have hp : (2 : Nat) ^ n ≤ 2 ^ 64 := Nat.pow_le_pow_right (by decide) h
  have e64 : (2 : Nat) ^ 64 = 18446744073709551616 := by decide
  have e : ((2 : Int) ^ n) = ((2 ^ n : Nat) : Int) := by simp
  unfold sgn
  rw [e]
  generalize 2 ^ n = P at *
  split <;> omega
theorem sgn_wrap (v n : Nat) (h : n ≤ 63) (hv : v < 2 ^ n) (h1 : ¬ 2 * v < 2 ^ n) (P : Nat) (hP : 2 ^ n = P) :
    IntKind.i64.wrap (IntKind.i64.wrap (v : Int) - IntKind.i64.wrap (P : Int)) = sgn v n := by
  have hr := sgn_range v n (by omega) hv
  have hp : (2 : Nat) ^ n ≤ 2 ^ 63 := Nat.pow_le_pow_right (by decide) h
  have e63 : (2 : Nat) ^ 63 = 9223372036854775808 := by decide
  have e : ((2 : Int) ^ n) = ((2 ^ n : Nat) : Int) := by simp
  rw [hP] at hv h1 hp e
  unfold sgn at *
  rw [hP, if_neg h1, e] at *
  simp only [IntKind.wrap_i64]
  omega
theorem sgn_full (v : Nat) (hv : v < 2 ^ 64) : IntKind.i64.wrap (v : Int) = sgn v 64 := by
  have e64 : (2 : Nat) ^ 64 = 18446744073709551616 := by decide
  have e64' : (2 : Int) ^ 64 = 18446744073709551616 := by decide
  unfold sgn
  rw [e64] at *
  rw [e64', IntKind.wrap_i64]
  split <;> omega


set_option maxRecDepth 100000 in
set_option maxHeartbeats 600000 in
theorem signed_nil (w : World) : Calls Try.prog 23 #[.string ⟨#[]⟩] w fun e w' => e = .returned (.int .i64 0) ∧ w' = w := by
  have HNC := Lib.hid (number_calls [] ⟨#[]⟩ rfl (by decide) w)
  go_enter Try.func23, Try.ntmps23
  go_wp2_with fail
  refine HNC.out.mono ?_
  rintro e w1 ⟨rfl, rfl⟩
  rw [show bnum [] 0 [].length = 0 from rfl]
  go_wp2_with fail
  go_ret
  exact ⟨rfl, rfl⟩

theorem ne_tx (bs : List Bool) (S : ByteArray) (hS : S = tx bs) (h : 0 < bs.length) : ¬ S.toList = [] ∧ (!S.toList.isEmpty) = true ∧ S.toList.isEmpty = false := by
  have h1 : S.toList.length = bs.length := by
    rw [ByteArray.toList_eq, ← tx_size, ← hS]; rfl
  have h2 : ¬ S.toList = [] := fun e => by rw [e] at h1; simp at h1; omega
  have h3 : S.toList.isEmpty = false := by cases hl : S.toList with
    | nil => exact absurd hl h2
    | cons => rfl
  exact ⟨h2, by rw [h3]; rfl, h3⟩

set_option maxRecDepth 100000 in
set_option maxHeartbeats 600000 in
theorem signed_calls (bs : List Bool) (S : ByteArray) (hS : S = tx bs) (hl : bs.length ≤ 64) (w : World) :
    Calls Try.prog 23 #[.string S] w fun e w' => e = .returned (.int .i64 (sgn (bnum bs 0 bs.length) bs.length)) ∧ w' = w := by
  by_cases h0 : bs.length = 0
  · have hb := List.eq_nil_of_length_eq_zero h0
    subst hb
    subst hS
    exact signed_nil w
  have HNC := Lib.hid (number_calls bs S hS hl w)
  have hv := bnum_lt bs 0 bs.length
  have hix := bidx_run bs S hS 0 (by omega)
  obtain ⟨hne, hne2, hne3⟩ := ne_tx bs S hS (by omega)
  obtain ⟨m, hm⟩ : ∃ m, bs.length = m := ⟨_, rfl⟩
  have hsz : S.size = m := by rw [hS, tx_size, hm]
  obtain ⟨v, hvv⟩ : ∃ v, bnum bs 0 bs.length = v := ⟨_, rfl⟩
  obtain ⟨z, hz⟩ : ∃ z, sgn v m = z := ⟨_, rfl⟩
  rw [hvv] at HNC hv ⊢
  rw [hm] at hl hv hvv h0 ⊢
  rw [hz]
  obtain ⟨j, rfl⟩ : ∃ j, m = j + 1 := ⟨m - 1, by omega⟩
  have h64 : j + 1 = 64 → IntKind.i64.wrap (v : Int) = z := fun e => by
    rw [← hz, e]; exact sgn_full v (by rw [← e]; exact hv)
  have hlow : bi bs 0 = 0 → IntKind.i64.wrap (v : Int) = z := fun e => by
    have h1 := sgn_head0 bs j e
    rw [hvv] at h1
    rw [hz] at h1
    have h2 := sgn_range v (j + 1) hl hv
    rw [hz] at h2
    rw [← h1, IntWalk.i64_in _ (by omega)]
  obtain ⟨P, hP⟩ : ∃ P, 2 ^ (j + 1) = P := ⟨_, rfl⟩
  have hhigh : bi bs 0 = 1 → j + 1 ≤ 63 → IntKind.i64.wrap (IntKind.i64.wrap (v : Int) - IntKind.i64.wrap (P : Int)) = z := fun e hle => by
    rw [← hz]
    refine sgn_wrap v (j + 1) hle hv ?_ P hP
    have h1 := bnum_head bs j
    rw [e, hvv] at h1
    rw [h1, Nat.pow_succ]; omega
  have hPi : ((2 : Int) ^ (j + 1)) = (P : Int) := by rw [← hP]; simp
  have hix0 : ∀ W : World, (Instr.index 9 (.string S) (.int .i64 0)).run Try.prog W = .ok (.int .u8 (48 + (bi bs 0 : Int))) W := hix
  clear hix
  have hP2 : ((2 : Int) ^ (j + 1 : Nat)) = (P : Int) := hPi
  have hi0 : (0 : Int) < ((j + 1 : Nat) : Int) := by omega
  have hi1 : 0 < S.size := by omega
  simp only [IntWalk.i64_left] at h64 hlow hhigh
  rcases (show bi bs 0 = 0 ∨ (bi bs 0 = 1 ∧ j + 1 = 64) ∨ (bi bs 0 = 1 ∧ j + 1 ≤ 63) by have := bi_le bs 0; omega) with h | ⟨h, h2⟩ | ⟨h, h2⟩
  · have hw := hlow h
    have hix : ∀ W : World, (Instr.index 9 (.string S) (.int .i64 0)).run Try.prog W = .ok (.int .u8 48) W := by have := hix0; rw [h] at this; exact this
    clear hix0
    clear h64 hlow hhigh hS hvv hm hz hP hPi h
    go_enter Try.func23, Try.ntmps23
    go_wp2_with fail
    refine HNC.out.mono ?_
    rintro e w1 ⟨rfl, rfl⟩
    go_wp2_with fail
    go_ret
    exact ⟨ret_i64 hw, rfl⟩
  · have hw := h64 h2
    have hix : ∀ W : World, (Instr.index 9 (.string S) (.int .i64 0)).run Try.prog W = .ok (.int .u8 49) W := by have := hix0; rw [h] at this; exact this
    clear hix0
    clear h64 hlow hhigh hS hvv hm hz hP hPi h
    go_enter Try.func23, Try.ntmps23
    go_wp2_with fail
    refine HNC.out.mono ?_
    rintro e w1 ⟨rfl, rfl⟩
    go_wp2_with fail
    go_ret
    exact ⟨ret_i64 hw, rfl⟩
  · have hw := hhigh h h2
    have hix : ∀ W : World, (Instr.index 9 (.string S) (.int .i64 0)).run Try.prog W = .ok (.int .u8 49) W := by have := hix0; rw [h] at this; exact this
    clear hix0
    clear h64 hlow hhigh hS hvv hm hz hP h
    have hj64 : ((j : Int) + 1 < 64) := by omega
    go_enter Try.func23, Try.ntmps23
    go_wp2_with fail
    refine HNC.out.mono ?_
    rintro e w1 ⟨rfl, rfl⟩
    go_wp2_with fail
    go_ret
    exact ⟨ret_i64 hw, rfl⟩
end Go.Proofs.Ytldgldibkibknaa
