/-
  The law SequenceWindowOrder, walked: for any first number, any set of the thirty-two behind it and any order it returns true and writes nothing that was there.
-/
import Derived.Test.YthcianalnhdgjaaSet
namespace Go.Proofs.Ythcianalnhdgjaa
open Go.RowKit

theorem and31 (c : Nat) (h : c < 256) : Go.bits BinOp.and IntKind.u8 (c : Int) 31 = ((c % 32 : Nat) : Int) := by
  have := u8_and_nat c 31 h (by decide)
  rw [show ((31 : Nat) : Int) = 31 from rfl] at this
  rw [this]
  have e := Nat.and_two_pow_sub_one_eq_mod c 5
  simp only [Nat.reducePow, Nat.reduceSub] at e
  rw [e]
theorem back_walk (first : Int) (k : Nat) : IntKind.u16.wrap (first - ((k : Int) + 1)) = back first k := by rw [IntKind.wrap_u16]; rfl
theorem accOk_fresh (first : Int) (w k : Nat) (hk : k < 32) : accOk true first (low 0 w k) (back first k) = true := by
  rw [(accBits_behind (bits := low 0 w k) (dist_to_first first k hk) hk).2.2, low_fresh]; rfl
theorem Win.far_ {w w' : World} {g g' : Nat} {s : Bool} {last : Int} {bits : Nat} (h : Win w g s last bits) (hg : w.grownBy w' (some g')) (hne : g ≠ g') : Win w' g s last bits :=
  Blk.grown h hg (fun e => hne (by injection e))
/-- What lies in the second window. -/
def Near (wr : World) (g : Nat) (first : Int) (which : Nat) : Prop := ∃ q s last bits, Holds first q s last bits ∧ bits < 4294967296 ∧ (∀ i, q.testBit i = true → which.testBit i = true) ∧ Win wr g s last bits
def Near3 (wr : World) (g : Nat) (first : Int) (which k : Nat) : Prop := ∃ q, q < 4294967296 ∧ (∀ i, q.testBit i = true → which.testBit i = true) ∧ Win wr g true first (low q which k)

theorem Rd.byte {w : World} {B n : Nat} {A : Option Addr} {l : List Nat} (h : Rd w B A n (l.map bv)) (hlt : ∀ c ∈ l, c < 256) {k : Nat} (hk : k < n) :
    ∃ b off c, A = some ⟨b, off, none⟩ ∧ b < B ∧ w.cell? ⟨b, off + k, none⟩ = some (.int .u8 ((c : Nat) : Int)) ∧ c < 256 ∧ Hid (c = l.getD k 0) := by
  obtain ⟨b, off, u, e, hb, hu, hc⟩ := h.at_ hk
  have hkl : k < l.length := by have := h.1; simp at this; omega
  have hg : l.getD k 0 = l[k] := by rw [List.getD_eq_getElem?_getD, List.getElem?_eq_getElem hkl]; rfl
  refine ⟨b, off, l.getD k 0, e, hb, ?_, by rw [hg]; exact hlt _ (List.getElem_mem hkl), Lib.hid rfl⟩
  rw [hc]
  rw [List.getElem?_map, List.getElem?_eq_getElem hkl] at hu
  simp at hu
  rw [← hu, hg]
  rfl
set_option maxHeartbeats 2000000 in
theorem order (first : Int) (which : Nat) (A : Option Addr) (m cap : Nat) (l : List Nat) (w : World) (hw : which < 4294967296) (hm : m ≤ 9223372036854775807) (hlt : ∀ c ∈ l, c < 256)
    (hR : Rd w w.heap.size A m (l.map bv)) :
    Calls Try.prog 6 #[.int .u16 first, .int .u32 (which : Int), .slice A m cap] w fun e w' => e = .returned (.bool true) ∧ Below w.heap.size w w' := by
  have HR := Lib.hid hR
  have Hlt := Lib.hid hlt
  clear hR hlt
  go_enter Try.func6, Try.ntmps6
  go_wp2_with fail
  refine (shown_calls w).mono ?_
  rintro e w1 ⟨rfl, hB1⟩
  have HB1 := Lib.hid hB1
  have HZ := Lib.hid hB1.size
  clear hB1
  go_wp2_with fail
  obtain ⟨w2, hw2⟩ : ∃ w2, (w1.alloc (.cells #[.bool false, .int .u16 0, .int .u32 0] 32)).alloc (.cells #[.bool false, .int .u16 0, .int .u32 0] 32) = w2 := ⟨_, rfl⟩
  have hA2 : Win w2 w1.heap.size false 0 0 := by rw [← hw2]; exact Blk.alloc (Win.new w1) _
  have hB2 : Win w2 (w1.heap.size + 1) false 0 0 := by
    rw [← hw2]
    have := Win.new (w1.alloc (.cells #[.bool false, .int .u16 0, .int .u32 0] 32))
    simpa using this
  have hb2 : Below w.heap.size w w2 := by rw [← hw2]; exact (HB1.out.alloc HB1.out.size _).alloc (by have := HB1.out.size; simp; omega) _
  rw [hw2]
  have Hw2 := Lib.hid hw2
  clear hw2
  obtain ⟨g, hg⟩ : ∃ g, w1.heap.size = g := ⟨_, rfl⟩
  rw [hg] at hA2 hB2 HZ
  rw [hg]
  have Hg := Lib.hid hg
  have HA2 := Lib.hid hA2
  have HB2 := Lib.hid hB2
  have HL2 := Lib.hid hb2
  clear hg hA2 hB2 hb2
  refine (accept_calls g false 0 0 first w2 HA2.out (by decide)).mono ?_
  rintro e w3 ⟨rfl, hW3, hg3⟩
  have HA3 : Hid (Win w3 g true first (low 0 which 0)) := Lib.hid (by rw [low_zero]; exact hW3)
  have HB3 := Lib.hid (HB2.out.far_ hg3 (by omega))
  have HL3 := Lib.hid (HL2.out.grown hg3 HL2.out.size (fun q e => by cases e; exact HZ.out))
  have ok1 : accOk false 0 0 first = true := rfl
  rw [ok1]
  clear hW3 hg3 ok1
  go_wp2_with fail
  go_loopw [10] (fun i wr => ∃ k : Nat, k ≤ 32 ∧ i = .int .i64 k ∧ Hid (Win wr g true first (low 0 which k)) ∧ Hid (Win wr (g + 1) false 0 0) ∧ Hid (Below w.heap.size w wr)) (fun i _ => 32 - (intOf i).toNat)
  case atStart => exact ⟨0, by omega, rfl, HA3, HB3, HL3⟩
  case round =>
    obtain ⟨k, hk, rfl, HA, HB, HL⟩ := hrel
    by_cases hk32 : k < 32
    · have hbw := bit_walk which k hw
      have hback := back_walk first k
      rcases hbit : which.testBit k with _ | _
      · have hb0 : bit which k = false := by rw [bit_test]; exact hbit
        have Hbit := Lib.hid hbit
        clear hbit
        go_wp2_with fail
        go_roundw
        case rel => exact ⟨k + 1, by omega, by go_num, Lib.hid (by rw [low_no Hbit.out]; exact HA.out), HB, HL⟩
        case measure => simp [intOf]; omega
      · have hb0 : bit which k = true := by rw [bit_test]; exact hbit
        have Hbit := Lib.hid hbit
        clear hbit
        go_wp2_with fail
        refine (accept_calls g true first (low 0 which k) (back first k) wr HA.out (low_lt (by decide) hk)).mono ?_
        obtain ⟨f1, f2, _⟩ := accBits_behind (bits := low 0 which k) (dist_to_first first k hk32) hk32
        rw [accOk_fresh first which k hk32, f1, f2, low_yes Hbit.out]
        clear f1 f2
        rintro e w4 ⟨rfl, hW4, hg4⟩
        have HA4 := Lib.hid hW4
        have HB4 := Lib.hid (HB.out.far_ hg4 (by omega))
        have HL4 := Lib.hid (HL.out.grown hg4 HL.out.size (fun q e => by cases e; exact HZ.out))
        clear hW4 hg4
        go_wp2_with fail
        go_roundw
        case rel => exact ⟨k + 1, by omega, by go_num, HA4, HB4, HL4⟩
        case measure => simp [intOf]; omega
    · obtain rfl : k = 32 := by omega
      have HA' : Hid (Win wr g true first which) := Lib.hid (by have := HA.out; rwa [low_all hw (fun i h => by simp at h)] at this)
      have HN : Hid (Near wr (g + 1) first which) := Lib.hid ⟨0, false, 0, 0, ⟨by decide, .inl ⟨rfl, rfl⟩⟩, by decide, fun i h => by simp at h, HB.out⟩
      clear HA
      go_wp2_with fail
      go_loopw [11, 12] (fun i _ wr => ∃ k : Nat, k ≤ m ∧ k ≤ 100 ∧ i = .int .i64 k ∧ Hid (Win wr g true first which) ∧ Hid (Near wr (g + 1) first which) ∧ Hid (Below w.heap.size w wr)) (fun i _ _ => m - (intOf i).toNat)
      case atStart => exact ⟨0, by omega, by omega, rfl, HA', HN, HL⟩
      case round =>
        obtain ⟨k, hk, hk100, rfl, HA5, HN5, HL5⟩ := hrel
        by_cases hlt : k < m ∧ k < 100
        · obtain ⟨hlt, hlt100⟩ := hlt
          obtain ⟨b, off, c, rfl, hbb, hc0, hc256, _⟩ := HR.out.byte Hlt.out hlt
          have hcr := (HL5.out.cell (p := ⟨b, off + k, none⟩) hbb).trans hc0
          obtain ⟨j, hj⟩ : ∃ j, c % 32 = j := ⟨_, rfl⟩
          have h31 := and31 c hc256
          have hj32 : j < 32 := by omega
          rw [hj] at h31
          have Hj := Lib.hid hj
          clear hj hc0
          have hbw := bit_walk which j hw
          have hback := back_walk first j
          rcases hbit : which.testBit j with _ | _
          · have hb0 : bit which j = false := by rw [bit_test]; exact hbit
            have Hbit := Lib.hid hbit
            clear hbit
            go_wp2_with fail
            go_roundw
            case rel => exact ⟨k + 1, by omega, by omega, by go_num, HA5, HN5, HL5⟩
            case measure => simp [intOf]; omega
          · have hb0 : bit which j = true := by rw [bit_test]; exact hbit
            have Hbit := Lib.hid hbit
            clear hbit
            obtain ⟨q, s, last, bits, hh, hlt4, hsub, hwin⟩ := HN5.out
            have HH := Lib.hid hh
            have HSub := Lib.hid hsub
            have HWin := Lib.hid hwin
            clear hh hsub hwin
            go_wp2_with fail
            refine (accept_calls (g + 1) s last bits (back first j) wr HWin.out hlt4).mono ?_
            rintro e w6 ⟨rfl, hW6, hg6⟩
            have HN6 : Hid (Near w6 (g + 1) first which) := Lib.hid ⟨q ||| 2 ^ j, true, _, _, HH.out.step hj32, (HH.out.step hj32).lt, fun i hi => by
              rw [Nat.testBit_or, Nat.testBit_two_pow] at hi
              by_cases hij : j = i
              · subst hij; exact Hbit.out
              · simp [hij] at hi; exact HSub.out i hi, hW6⟩
            have HA6 := Lib.hid (HA5.out.far_ hg6 (by omega))
            have HL6 := Lib.hid (HL5.out.grown hg6 HL5.out.size (fun q e => by cases e; exact Nat.le_succ_of_le HZ.out))
            clear hW6 hg6
            go_wp2_with fail
            go_roundw
            case rel => (repeat apply Exists.intro); exact ⟨⟨k + 1, by omega, by omega, by go_num, HA6, HN6, HL6⟩, rfl⟩
            case measure => simp [intOf]; omega
        · obtain ⟨q, s, last, bits, hh, hlt4, hsub, hwin⟩ := HN5.out
          have HH := Lib.hid hh
          have HSub := Lib.hid hsub
          have HWin := Lib.hid hwin
          have hq := hh.1
          clear hh hsub hwin
          rcases (show ¬ k < m ∨ (k < m ∧ k = 100) by omega) with h | ⟨h, rfl⟩
          all_goals
            clear hlt
            go_wp2_with fail
            refine (accept_calls (g + 1) s last bits first wr HWin.out hlt4).mono ?_
            rw [(HH.out.first).1, (HH.out.first).2]
            rintro e w6 ⟨rfl, hW6, hg6⟩
            have HN6 : Hid (Near3 w6 (g + 1) first which 0) := Lib.hid ⟨q, hq, HSub.out, by rw [low_zero]; exact hW6⟩
            have HA6 := Lib.hid (HA5.out.far_ hg6 (by omega))
            have HL6 := Lib.hid (HL5.out.grown hg6 HL5.out.size (fun q e => by cases e; exact Nat.le_succ_of_le HZ.out))
            clear hW6 hg6
            go_wp2_with fail
            go_loopw [13] (fun i wr => ∃ k : Nat, k ≤ 32 ∧ i = .int .i64 k ∧ Hid (Win wr g true first which) ∧ Hid (Near3 wr (g + 1) first which k) ∧ Hid (Below w.heap.size w wr)) (fun i _ => 32 - (intOf i).toNat)
            case atStart => exact ⟨0, by omega, rfl, HA6, HN6, HL6⟩
            case round =>
              obtain ⟨j, hj, rfl, HA7, HN7, HL7⟩ := hrel
              obtain ⟨q7, hq7, hs7, hw7⟩ := HN7.out
              have HS7 := Lib.hid hs7
              have HW7 := Lib.hid hw7
              clear hs7 hw7
              by_cases hj32 : j < 32
              · have hbw := bit_walk which j hw
                have hback := back_walk first j
                rcases hbit : which.testBit j with _ | _
                · have hb0 : bit which j = false := by rw [bit_test]; exact hbit
                  have Hbit := Lib.hid hbit
                  clear hbit
                  go_wp2_with fail
                  go_roundw
                  case rel => exact ⟨j + 1, by omega, by go_num, HA7, Lib.hid ⟨q7, hq7, HS7.out, by rw [low_no Hbit.out]; exact HW7.out⟩, HL7⟩
                  case measure => simp [intOf]; omega
                · have hb0 : bit which j = true := by rw [bit_test]; exact hbit
                  have Hbit := Lib.hid hbit
                  clear hbit
                  go_wp2_with fail
                  refine (accept_calls (g + 1) true first (low q7 which j) (back first j) wr HW7.out (low_lt hq7 hj)).mono ?_
                  obtain ⟨f1, f2, _⟩ := accBits_behind (bits := low q7 which j) (dist_to_first first j hj32) hj32
                  rw [f1, f2, low_yes Hbit.out]
                  clear f1 f2
                  rintro e w8 ⟨rfl, hW8, hg8⟩
                  have HN8 : Hid (Near3 w8 (g + 1) first which (j + 1)) := Lib.hid ⟨q7, hq7, HS7.out, hW8⟩
                  have HA8 := Lib.hid (HA7.out.far_ hg8 (by omega))
                  have HL8 := Lib.hid (HL7.out.grown hg8 HL7.out.size (fun q e => by cases e; exact Nat.le_succ_of_le HZ.out))
                  clear hW8 hg8
                  go_wp2_with fail
                  go_roundw
                  case rel => exact ⟨j + 1, by omega, by go_num, HA8, HN8, HL8⟩
                  case measure => simp [intOf]; omega
              · obtain rfl : j = 32 := by omega
                have HW8 : Hid (Win wr (g + 1) true first which) := Lib.hid (by have := HW7.out; rwa [low_all hw HS7.out] at this)
                go_wp2_with fail
                refine (ack_calls g true first which wr HA7.out).mono ?_
                rintro e w9 ⟨rfl, q9, rfl⟩
                go_wp2_with fail
                refine (ack_calls (g + 1) true first which (wr.drewN q9) (HW8.out.drawn q9)).mono ?_
                rintro e w9 ⟨rfl, q10, rfl⟩
                go_wp2
                go_ret
                exact ⟨rfl, below_drawn HL7.out (q9 + q10)⟩
end Go.Proofs.Ythcianalnhdgjaa
