/-
  The numbers of package sequence, each function walked once: Dist, Newer, Acked, and the document's answers.
-/
import Derived.Test.YthcianalnhdgjaaProg
import Derived.Test.YthcianalnhdgjaaBase
import Derived.Deep.QuietTactic
import Derived.BigQuiet
namespace Go.Proofs.Ythcianalnhdgjaa
open Go.RowKit

/-- How far one number is ahead of another, going round. -/
def dist (a b : Int) : Int := (a - b + 32768) % 65536 - 32768
theorem dist_walk (a b : Int) : IntKind.i16.wrap (IntKind.u16.wrap (a - b)) = dist a b := by
  unfold dist
  rw [IntKind.wrap_u16]
  simp only [IntKind.wrap, IntKind.bits, IntKind.signed]
  simp
  omega
theorem dist_lo (a b : Int) : -32768 ≤ dist a b ∧ dist a b ≤ 32767 := by unfold dist; omega

set_option maxHeartbeats 400000 in
theorem dist_calls (a b : Int) (w : World) : Calls Try.prog 12 #[.int .u16 a, .int .u16 b] w fun e w' => e = .returned (.int .i64 (dist a b)) ∧ w = w' := by
  go_enter Try.func12, Try.ntmps12
  go_wp2
  go_ret
  refine ⟨ret_i64 ?_, rfl⟩
  rw [dist_walk]
  have := dist_lo a b
  unfold wrap64
  omega
theorem newer_calls (a b : Int) (w : World) : Calls Try.prog 13 #[.int .u16 a, .int .u16 b] w fun e w' => e = .returned (.bool (decide (0 < dist a b))) ∧ w = w' := by
  have h := Lib.hid (dist_calls a b w)
  generalize dist a b = d at *
  go_enter Try.func13, Try.ntmps13
  go_wp2_with (go_at_call 12; refine h.out.mono ?_; rintro e w' ⟨rfl, rfl⟩)
  go_ret
  exact ⟨rfl, rfl⟩

/-- Is bit k set? -/
def bit (bits k : Nat) : Bool := decide (bits / 2 ^ k % 2 = 1)
theorem bit_walk (bits k : Nat) (h : bits < 4294967296) : (Go.bits BinOp.and IntKind.u32 ((bits : Int) / 2 ^ k) 1 == 1) = bit bits k := by
  have e : ((bits : Int) / 2 ^ k) = ((bits / 2 ^ k : Nat) : Int) := by simp
  have h2 : bits / 2 ^ k < 4294967296 := Nat.lt_of_le_of_lt (Nat.div_le_self _ _) h
  have := u32_and_nat (bits / 2 ^ k) 1 h2 (by decide)
  rw [show ((1 : Nat) : Int) = 1 from rfl] at this
  rw [e, this, Nat.and_one_is_mod]
  unfold bit
  by_cases hb : bits / 2 ^ k % 2 = 1
  · rw [hb]; rfl
  · have h0 : bits / 2 ^ k % 2 = 0 := by omega
    rw [h0]; rfl

/-- What an Ack tells. -/
def acked (last : Int) (bits : Nat) (n : Int) : Bool := if dist last n < 0 ∨ 32 < dist last n then false else if 0 < dist last n then bit bits (dist last n - 1).toNat else true
set_option maxHeartbeats 400000 in
theorem acked_calls (last : Int) (bits : Nat) (n : Int) (w : World) (hb : bits < 4294967296) :
    Calls Try.prog 14 #[.int .u16 last, .int .u32 (bits : Int), .int .u16 n] w fun e w' => e = .returned (.bool (acked last bits n)) ∧ w = w' := by
  have h := Lib.hid (dist_calls last n w)
  have hd := dist_lo last n
  obtain ⟨r, Hr⟩ : ∃ r, Hid (acked last bits n = r) := ⟨_, Lib.hid rfl⟩
  rw [Hr.out]
  unfold acked at Hr
  generalize dist last n = d at *
  by_cases h0 : d < 0
  · have hr : r = false := by rw [← Hr.out, if_pos (.inl h0)]
    clear Hr
    subst hr
    go_enter Try.func14, Try.ntmps14
    go_wp2_with (go_at_call 12; refine h.out.mono ?_; rintro e w' ⟨rfl, rfl⟩)
    go_ret
    exact ⟨rfl, rfl⟩
  by_cases h1 : 32 < d
  · have hr : r = false := by rw [← Hr.out, if_pos (.inr h1)]
    clear Hr
    subst hr
    go_enter Try.func14, Try.ntmps14
    go_wp2_with (go_at_call 12; refine h.out.mono ?_; rintro e w' ⟨rfl, rfl⟩)
    go_ret
    exact ⟨rfl, rfl⟩
  by_cases h2 : 0 < d
  · obtain ⟨k, hk⟩ : ∃ k : Nat, d = (k : Int) + 1 := ⟨(d - 1).toNat, by omega⟩
    subst hk
    have hr : r = bit bits k := by rw [← Hr.out, if_neg (by omega), if_pos h2]; congr 1; omega
    clear Hr
    subst hr
    have hw := bit_walk bits k hb
    go_enter Try.func14, Try.ntmps14
    go_wp2_with (go_at_call 12; refine h.out.mono ?_; rintro e w' ⟨rfl, rfl⟩)
    go_ret
    exact ⟨rfl, rfl⟩
  · have hr : r = true := by rw [← Hr.out, if_neg (by omega), if_neg h2]
    obtain rfl : d = 0 := by omega
    clear Hr
    subst hr
    go_enter Try.func14, Try.ntmps14
    go_wp2_with (go_at_call 12; refine h.out.mono ?_; rintro e w' ⟨rfl, rfl⟩)
    go_ret
    exact ⟨rfl, rfl⟩

set_option maxHeartbeats 400000 in
theorem refdist_calls (a b : Nat) (w : World) (ha : a < 65536) (hb : b < 65536) : Calls Try.prog 11 #[.int .u16 (a : Int), .int .u16 (b : Int)] w fun e w' => e = .returned (.int .i64 (dist a b)) ∧ w = w' := by
  by_cases h1 : 32767 < (a : Int) - b
  · go_enter Try.func11, Try.ntmps11
    go_wp2
    go_ret
    exact ⟨ret_i64 (by unfold dist; omega), rfl⟩
  · by_cases h2 : (a : Int) - b < -32768
    · go_enter Try.func11, Try.ntmps11
      go_wp2
      go_ret
      exact ⟨ret_i64 (by unfold dist; omega), rfl⟩
    · go_enter Try.func11, Try.ntmps11
      go_wp2
      go_ret
      exact ⟨ret_i64 (by unfold dist; omega), rfl⟩
theorem at_wrap (last n i : Nat) (hn : n < 65536) (hi : i < 32) : (IntKind.u16.wrap ((last : Int) - ((i : Int) + 1)) == (n : Int)) = decide (dist last n = (i : Int) + 1) := by
  rw [IntKind.wrap_u16]
  unfold dist
  rw [Bool.eq_iff_iff]
  simp
  omega
theorem pow_small (k : Nat) (h : k < 32) : (2 : Int) ^ k % 4294967296 = 2 ^ k := by
  have h1 : (2 : Nat) ^ k < 2 ^ 32 := Nat.pow_lt_pow_right (by decide) h
  have h2 : ((2 : Int) ^ k) = ((2 ^ k : Nat) : Int) := by simp
  rw [h2]
  generalize 2 ^ k = q at *
  simp only [Nat.reducePow] at h1
  omega
theorem bit_ref (bits k : Nat) : ((bits : Int) / 2 ^ k % 2 == 1) = bit bits k := by
  have e : ((bits : Int) / 2 ^ k) = ((bits / 2 ^ k : Nat) : Int) := by simp
  rw [e, Bool.eq_iff_iff]
  unfold bit
  simp
  omega
set_option maxHeartbeats 400000 in
theorem refacked_calls (last bits n : Nat) (w : World) (hl : last < 65536) (hn : n < 65536) :
    Calls Try.prog 15 #[.int .u16 (last : Int), .int .u32 (bits : Int), .int .u16 (n : Int)] w fun e w' => e = .returned (.bool (acked last bits n)) ∧ w = w' := by
  have hd := dist_lo last n
  obtain ⟨r, Hr⟩ : ∃ r, Hid (acked last bits n = r) := ⟨_, Lib.hid rfl⟩
  rw [Hr.out]
  unfold acked at Hr
  have Hw := Lib.hid (fun i (hi : i < 32) => at_wrap last n i hn hi)
  by_cases h0 : n = last
  · subst h0
    have hz : dist n n = 0 := by unfold dist; omega
    have hr : r = true := by rw [← Hr.out, hz]; rfl
    clear Hr Hw hz
    subst hr
    go_enter Try.func15, Try.ntmps15
    go_wp2
    go_ret
    exact ⟨rfl, rfl⟩
  have hne : ((n : Int) == (last : Int)) = false := beq_eq_false_iff_ne.2 (by omega)
  have hz : dist last n ≠ 0 := by unfold dist; omega
  generalize dist last n = d at *
  clear h0
  go_enter Try.func15, Try.ntmps15
  go_wp2
  go_loop [7] (fun i => ∃ k : Nat, k ≤ 32 ∧ i = .int .i64 k ∧ (0 < d → (k : Int) < d)) (fun i => 32 - (intOf i).toNat)
  case atStart => exact ⟨0, by omega, rfl, by omega⟩
  case round =>
    obtain ⟨k, hk, rfl, hkd⟩ := hrel
    by_cases hlt : k < 32
    · by_cases he : d = (k : Int) + 1
      · have ht : (IntKind.u16.wrap ((last : Int) - ((k : Int) + 1)) == (n : Int)) = true := by rw [Hw.out k hlt]; simpa using he
        have hr : r = bit bits k := by rw [← Hr.out, if_neg (by omega), if_pos (by omega), he]; congr 1; omega
        have He := Lib.hid he
        clear Hr he hkd
        subst hr
        have hm := pow_small k hlt
        have hb2 := bit_ref bits k
        have hz2 : ¬ (2 : Int) ^ k = 0 := Int.ne_of_gt (Int.pow_pos (by decide))
        go_wp2
        go_ret
        exact ⟨rfl, rfl⟩
      · have ht : (IntKind.u16.wrap ((last : Int) - ((k : Int) + 1)) == (n : Int)) = false := by rw [Hw.out k hlt]; simpa using he
        go_wp2
        go_round
        case rel => exact ⟨k + 1, by omega, by go_num, by omega⟩
        case measure => simp [intOf]; omega
    · have hr : r = false := by rw [← Hr.out, if_pos (by omega)]
      clear Hr
      subst hr
      go_wp2
      go_ret
      exact ⟨rfl, rfl⟩
end Go.Proofs.Ythcianalnhdgjaa
