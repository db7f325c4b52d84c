/-
  The document's answer for sums (package embrasureref04), walked once: bit by bit it is the same sum.
-/
import Derived.Test.YtefgcbdfimpaoaaDoorWalk
namespace Go.Proofs.YtefgcbdfimpaoaaDoor
open Go.RowKit

theorem str_at (l : List Nat) (hlt : ∀ c ∈ l, c < 256) (k : Nat) (h : k < (str l).size) : ((str l)[k]'h).toNat = l.getD k 0 := by
  have hk : k < l.length := by rw [← str_size]; exact h
  have e : (str l)[k]'h = UInt8.ofNat (l[k]) := by
    show (str l).data[k] = _
    simp [str]
  rw [e, List.getD_eq_getElem?_getD, List.getElem?_eq_getElem hk]
  have := hlt _ (List.getElem_mem hk)
  simp
  omega

theorem R_ref (S : Nat) (_ : S < 65536) (h : ¬ 32768 ≤ S) : IntKind.u16.wrap ((S : Int) * 2) = ((Crc.R S : Nat) : Int) := by
  rw [IntKind.wrap_u16, Crc.R_low (by omega)]; omega
theorem R_ref' (S : Nat) (hS : S < 65536) (h : 32768 ≤ S) : bits BinOp.xor IntKind.u16 (IntKind.u16.wrap ((S : Int) * 2)) 4129 = ((Crc.R S : Nat) : Int) := by
  have e1 : IntKind.u16.wrap ((S : Int) * 2) = ((S * 2 % 65536 : Nat) : Int) := by rw [IntKind.wrap_u16]; omega
  rw [e1]
  have := u16_xor_nat (S * 2 % 65536) 4129 (by omega) (by decide)
  rw [show ((4129 : Nat) : Int) = 4129 from rfl] at this
  rw [this]
  unfold Crc.R
  have z : S / 32768 = 1 := by omega
  rw [z]

set_option maxHeartbeats 400000 in
theorem refmore_calls (s : Nat) (l : List Nat) (w : World) (hs : s < 65536) (hl : l.length ≤ 9223372036854775807) (hlt : ∀ c ∈ l, c < 256) :
    Calls Tryd.prog 12 #[.int .u16 (s : Int), .string (str l)] w fun e w' => e = .returned (.int .u16 ((Crc.more s l : Nat) : Int)) ∧ w = w' := by
  obtain ⟨t, Ht⟩ : ∃ t, Hid (t = str l) := ⟨_, Lib.hid rfl⟩
  rw [← Ht.out]
  have Hsz : Hid (t.size = l.length) := by rw [Ht.out]; exact str_size l
  have hsz : t.size ≤ 9223372036854775807 := by rw [Hsz.out]; exact hl
  have Hat : Hid (∀ (k : Nat) (h : k < t.size), (t[k]'h).toNat = l.getD k 0) := by rw [Ht.out]; exact Lib.hid (str_at l hlt)
  have Hlt := Lib.hid hlt
  clear hlt
  go_enter Tryd.func12, Tryd.ntmps12
  go_wp2
  go_loop [0, 5] (fun s6 i => ∃ (k : Nat) (S : Nat), k ≤ t.size ∧ i = .int .i64 k ∧ s6 = .int .u16 (S : Int) ∧ S < 65536 ∧ Hid (S = Crc.more s (l.take k))) (fun _ i => t.size - (intOf i).toNat)
  case atStart => exact ⟨0, s, Nat.zero_le _, rfl, rfl, hs, Lib.hid rfl⟩
  case round =>
    obtain ⟨k, S, hk, rfl, rfl, hS, HS⟩ := hrel
    by_cases hlt : k < t.size
    · have hkl : k < l.length := by rw [← Hsz.out]; exact hlt
      have hc256 := getD_lt Hlt.out hkl
      have HX : Hid (bits BinOp.xor IntKind.u16 (S : Int) (IntKind.u16.wrap (IntKind.u16.wrap ((t[k]'hlt).toNat : Int) * 256)) = ((S ^^^ l.getD k 0 * 256 : Nat) : Int)) := by
        have e0 := Hat.out k hlt
        have e1 : IntKind.u16.wrap (IntKind.u16.wrap ((t[k]'hlt).toNat : Int) * 256) = ((l.getD k 0 * 256 : Nat) : Int) := by
          rw [e0, IntKind.wrap_u16, IntKind.wrap_u16]; omega
        rw [e1]
        exact Lib.hid (u16_xor_nat _ _ hS (by omega))
      have hX : S ^^^ l.getD k 0 * 256 < 65536 := Crc.lt16 hS (by omega)
      have Hst : Hid (Crc.step S (l.getD k 0) = Crc.Rn 8 (S ^^^ l.getD k 0 * 256)) := Lib.hid (Crc.step_Rn hS hc256)
      obtain ⟨S0, HS0⟩ : ∃ S0, Hid (S ^^^ l.getD k 0 * 256 = S0) := ⟨_, Lib.hid rfl⟩
      have Hst' : Hid (Crc.step S (l.getD k 0) = Crc.Rn 8 S0) := by rw [← HS0.out]; exact Hst
      have hX0 : S0 < 65536 := by rw [← HS0.out]; exact hX
      have HX0 : Hid (bits BinOp.xor IntKind.u16 (S : Int) (IntKind.u16.wrap (IntKind.u16.wrap ((t[k]'hlt).toNat : Int) * 256)) = (S0 : Int)) := by rw [← HS0.out]; exact HX
      clear HX hX Hst hc256
      go_wp2
      go_loop [0, 6, 7] (fun s6 j _ => ∃ (q : Nat) (T : Nat), q ≤ 8 ∧ j = .int .i64 q ∧ s6 = .int .u16 (T : Int) ∧ T < 65536 ∧ Hid (Crc.Rn (8 - q) T = Crc.Rn 8 S0)) (fun _ j _ => 8 - (intOf j).toNat)
      case atStart => exact ⟨0, S0, by omega, rfl, u16_eq HX0.out, hX0, Lib.hid rfl⟩
      case round =>
        obtain ⟨q, T, hq, rfl, rfl, hT, HT⟩ := hrel
        by_cases hq8 : q < 8
        · have HT' : Hid (Crc.Rn (8 - (q + 1)) (Crc.R T) = Crc.Rn 8 S0) := by
            have := HT.out
            rw [show 8 - q = (8 - (q + 1)) + 1 by omega] at this
            exact Lib.hid this
          by_cases hT2 : 32768 ≤ T
          · have hd : decide ((32768 : Int) ≤ (T : Int)) = true := by simp; omega
            have HT2 := Lib.hid hT2
            clear hT2
            go_wp2_with fail
            go_round
            case rel => 
              refine ⟨q + 1, Crc.R T, ?_, ?_, ?_, ?_, ?_⟩
              · omega
              · go_num
              · exact u16_eq (R_ref' T hT HT2.out)
              · exact Crc.R_lt hT
              · exact HT'
            case measure => simp [intOf]; omega
          · have hd : decide ((32768 : Int) ≤ (T : Int)) = false := by simp; omega
            have HT2 := Lib.hid hT2
            clear hT2
            go_wp2_with fail
            go_round
            case rel => exact ⟨q + 1, Crc.R T, by omega, by go_num, u16_eq (R_ref T hT HT2.out), Crc.R_lt hT, HT'⟩
            case measure => simp [intOf]; omega
        · go_wp2
          go_round
          case rel => exact ⟨k + 1, T, by omega, by go_num, rfl, hT, Lib.hid (by
            have e := HT.out
            rw [show 8 - q = 0 by omega] at e
            rw [take_more hkl, ← HS.out, Hst'.out]
            exact e)⟩
          case measure => simp [intOf]; omega
    · go_wp2
      go_ret
      exact ⟨ret_u16 (by rw [HS.out, List.take_of_length_le (by rw [← Hsz.out]; omega)]), rfl⟩
theorem refsum_calls (l : List Nat) (w : World) (hl : l.length ≤ 9223372036854775807) (hlt : ∀ c ∈ l, c < 256) :
    Calls Tryd.prog 10 #[.string (str l)] w fun e w' => e = .returned (.int .u16 ((Crc.more 65535 l : Nat) : Int)) ∧ w = w' := by
  have h := Lib.hid (refmore_calls 65535 l w (by decide) hl hlt)
  clear hlt
  go_enter Tryd.func10, Tryd.ntmps10
  go_wp2_with (go_at_call 12; refine h.out.mono ?_; rintro e w' ⟨rfl, rfl⟩)
  go_ret
  exact ⟨rfl, rfl⟩
end Go.Proofs.YtefgcbdfimpaoaaDoor
