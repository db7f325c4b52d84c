/-
  The law SequenceAckedNear, walked: for any last number, bits and far number it returns true and writes nothing that was there.
-/
import Derived.Test.YthcianalnhdgjaaShown
namespace Go.Proofs.Ythcianalnhdgjaa
open Go.RowKit

/-- Does an Ack tell of the number that is i behind the last one? -/
def ackAt (bits i : Nat) : Bool := i == 0 || (decide (i ≤ 32) && bit bits (i - 1))
theorem ackAt_eq (last : Int) (bits i : Nat) (hi : i ≤ 40) : acked last bits (IntKind.u16.wrap (last - (i : Int))) = ackAt bits i := by
  have e : dist last (IntKind.u16.wrap (last - (i : Int))) = (i : Int) := by rw [IntKind.wrap_u16]; unfold dist; omega
  unfold acked ackAt
  rw [e]
  by_cases h0 : i = 0
  · subst h0; rfl
  · by_cases h1 : i ≤ 32
    · rw [if_neg (by omega), if_pos (by omega)]
      simp [h0, h1]
    · rw [if_pos (by omega)]
      simp [h0, h1]
def cnt (bits : Nat) : Nat → Nat
  | 0 => 0
  | k + 1 => cnt bits k + if ackAt bits k = true then 1 else 0
def pop (bits : Nat) : Nat → Nat
  | 0 => 0
  | k + 1 => pop bits k + bits / 2 ^ k % 2
theorem cnt_le (bits : Nat) : ∀ k, cnt bits k ≤ k
  | 0 => Nat.le_refl _
  | k + 1 => by have := cnt_le bits k; unfold cnt; split <;> omega
theorem pop_le (bits : Nat) : ∀ k, pop bits k ≤ k
  | 0 => Nat.le_refl _
  | k + 1 => by have := pop_le bits k; unfold pop; omega
theorem cnt_pop (bits : Nat) : ∀ k, k ≤ 32 → cnt bits (k + 1) = pop bits k + 1
  | 0, _ => rfl
  | k + 1, h => by
    show cnt bits (k + 1) + (if ackAt bits (k + 1) = true then 1 else 0) = pop bits k + bits / 2 ^ k % 2 + 1
    rw [cnt_pop bits k (by omega)]
    have e : ackAt bits (k + 1) = bit bits k := by simp [ackAt, h]
    rw [e]
    unfold bit
    by_cases hb : bits / 2 ^ k % 2 = 1
    · rw [hb]; simp
    · have : bits / 2 ^ k % 2 = 0 := by omega
      rw [this]; simp
theorem cnt_far (bits : Nat) : ∀ k, cnt bits (33 + k) = cnt bits 33
  | 0 => rfl
  | k + 1 => by
    show cnt bits (33 + k) + (if ackAt bits (33 + k) = true then 1 else 0) = _
    have e : ackAt bits (33 + k) = false := by simp [ackAt]; omega
    rw [e, cnt_far bits k]; simp
theorem and_one (bits k : Nat) (h : bits < 4294967296) : Go.bits BinOp.and IntKind.u32 ((bits : Int) / 2 ^ k) 1 = ((bits / 2 ^ k % 2 : Nat) : Int) := by
  have e : ((bits : Int) / 2 ^ k) = ((bits / 2 ^ k : Nat) : Int) := by simp
  have h2 : bits / 2 ^ k < 4294967296 := Nat.lt_of_le_of_lt (Nat.div_le_self _ _) h
  have := u32_and_nat (bits / 2 ^ k) 1 h2 (by decide)
  rw [show ((1 : Nat) : Int) = 1 from rfl] at this
  rw [e, this, Nat.and_one_is_mod]
theorem acked_zero (last far : Int) (hl : 0 ≤ last ∧ last < 65536) (hf : 0 ≤ far ∧ far < 65536) : acked last 0 far = (far == last) := by
  unfold acked
  by_cases h : far = last
  · subst h
    have : dist far far = 0 := by unfold dist; omega
    rw [this]; simp
  · have h0 : dist last far ≠ 0 := by unfold dist; omega
    have e : (far == last) = false := beq_eq_false_iff_ne.2 h
    rw [e]
    split
    · rfl
    · split
      · simp [bit]
      · omega

set_option maxHeartbeats 1000000 in
theorem near (last : Int) (bits : Nat) (far : Int) (w : World) (hl : 0 ≤ last ∧ last < 65536) (hf : 0 ≤ far ∧ far < 65536) (hb : bits < 4294967296) :
    Calls Try.prog 9 #[.int .u16 last, .int .u32 (bits : Int), .int .u16 far] w fun e w' => e = .returned (.bool true) ∧ Below w.heap.size w w' := by
  go_enter Try.func9, Try.ntmps9
  go_wp2_with fail
  refine (shown_calls w).mono ?_
  rintro e w1 ⟨rfl, hB1⟩
  have HB1 := Lib.hid hB1
  clear hB1
  go_wp2_with fail
  go_loop [8, 9] (fun n i => ∃ k c : Nat, k ≤ 41 ∧ i = .int .i64 k ∧ n = .int .i64 c ∧ c ≤ k ∧ Hid (c = cnt bits k)) (fun _ i => 41 - (intOf i).toNat)
  case atStart => exact ⟨0, 0, by omega, rfl, rfl, by omega, Lib.hid rfl⟩
  case round =>
    obtain ⟨k, c, hk, rfl, rfl, hck, Hc⟩ := hrel
    by_cases hlt : k < 41
    · obtain ⟨r, Hr⟩ : ∃ r, Hid (ackAt bits k = r) := ⟨_, Lib.hid rfl⟩
      have F := Lib.hid (acked_calls last bits (IntKind.u16.wrap (last - (k : Int))) w1 hb)
      rw [ackAt_eq last bits k (by omega), Hr.out] at F
      cases r with
      | true =>
        go_wp2_with fail
        with_reducible refine F.out.mono ?_
        rintro e w2 ⟨rfl, rfl⟩
        go_wp2
        go_round
        case rel => exact ⟨k + 1, c + 1, by omega, by go_num, by go_num, by omega, Lib.hid (by rw [cnt, Hr.out, ← Hc.out]; rfl)⟩
        case measure => simp [intOf]; omega
      | false =>
        go_wp2_with fail
        with_reducible refine F.out.mono ?_
        rintro e w2 ⟨rfl, rfl⟩
        go_wp2
        go_round
        case rel => exact ⟨k + 1, c, by omega, by go_num, rfl, by omega, Lib.hid (by rw [cnt, Hr.out, ← Hc.out]; rfl)⟩
        case measure => simp [intOf]; omega
    · obtain rfl : k = 41 := by omega
      have hc41 : c = pop bits 32 + 1 := by rw [Hc.out, ← cnt_pop bits 32 (by omega)]; exact cnt_far bits 8
      have HC := Lib.hid hc41
      clear hc41 Hc
      go_wp2_with fail
      go_loop [10, 11] (fun n i => ∃ k c : Nat, k ≤ 32 ∧ i = .int .i64 k ∧ n = .int .i64 c ∧ c ≤ k ∧ Hid (c = pop bits k)) (fun _ i => 32 - (intOf i).toNat)
      case atStart => exact ⟨0, 0, by omega, rfl, rfl, by omega, Lib.hid rfl⟩
      case round =>
        obtain ⟨j, p, hj, rfl, rfl, hpj, Hp⟩ := hrel
        by_cases hlt2 : j < 32
        · have ha := and_one bits j hb
          have hm : bits / 2 ^ j % 2 < 2 := Nat.mod_lt _ (by decide)
          obtain ⟨q, hq⟩ : ∃ q, bits / 2 ^ j % 2 = q := ⟨_, rfl⟩
          have Hq := Lib.hid hq
          rw [hq] at ha hm
          clear hq
          go_wp2_with fail
          go_round
          case rel => exact ⟨j + 1, p + q, by omega, by go_num, by go_num, by omega, Lib.hid (by rw [pop, Hq.out, ← Hp.out])⟩
          case measure => simp [intOf]; omega
        · obtain rfl : j = 32 := by omega
          have hcp : c = p + 1 := by rw [HC.out, Hp.out]
          clear HC Hp
          subst hcp
          have D := Lib.hid (dist_calls last far w1)
          have E := Lib.hid (acked_calls last bits far w1 hb)
          have E0 : Hid (Calls Try.prog 14 #[.int .u16 last, .int .u32 0, .int .u16 far] w1 fun e w' => e = .returned (.bool (far == last)) ∧ w1 = w') := Lib.hid (by have := acked_calls last 0 far w1 (by decide); rw [acked_zero last far hl hf] at this; exact this)
          obtain ⟨d, Hd⟩ : ∃ d, Hid (dist last far = d) := ⟨_, Lib.hid rfl⟩
          rw [Hd.out] at D
          go_wp2_with fail
          with_reducible refine D.out.mono ?_
          rintro e w2 ⟨rfl, rfl⟩
          have hfar : (d < 0 ∨ 32 < d) → acked last bits far = false := fun h => by unfold acked; rw [Hd.out, if_pos h]
          have Hf := Lib.hid hfar
          clear hfar
          by_cases hd0 : 0 ≤ d
          · by_cases hd1 : d ≤ 32
            · go_wp2_with fail
              with_reducible refine E0.out.mono ?_
              rintro e w2 ⟨rfl, rfl⟩
              go_wp2
              go_ret
              exact ⟨rfl, HB1.out⟩
            · rw [Hf.out (.inr (by omega))] at E
              go_wp2_with fail
              with_reducible refine E.out.mono ?_
              rintro e w2 ⟨rfl, rfl⟩
              go_wp2_with fail
              with_reducible refine E0.out.mono ?_
              rintro e w2 ⟨rfl, rfl⟩
              go_wp2
              go_ret
              exact ⟨rfl, HB1.out⟩
          · rw [Hf.out (.inl (by omega))] at E
            go_wp2_with fail
            with_reducible refine E.out.mono ?_
            rintro e w2 ⟨rfl, rfl⟩
            go_wp2_with fail
            with_reducible refine E0.out.mono ?_
            rintro e w2 ⟨rfl, rfl⟩
            go_wp2
            go_ret
            exact ⟨rfl, HB1.out⟩
end Go.Proofs.Ythcianalnhdgjaa
