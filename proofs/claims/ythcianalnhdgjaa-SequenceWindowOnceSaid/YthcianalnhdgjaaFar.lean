/-
  The law SequenceWindowFar, walked: for any numbers accepted, and any number, it returns true and writes nothing that was there.
-/
import Derived.Test.YthcianalnhdgjaaShown
namespace Go.Proofs.Ythcianalnhdgjaa
open Go.RowKit

theorem bit_test (b k : Nat) : bit b k = b.testBit k := by rw [Nat.testBit_eq_decide_div_mod_eq]; rfl
theorem bit_or (b k : Nat) : bit (b ||| 2 ^ k) k = true := by rw [bit_test, Nat.testBit_or]; simp [Nat.testBit_two_pow_self]
/-- The window's answers to a number, whatever it holds: newer; known, or too far behind; else. -/
theorem far_cases (last n : Int) (bits : Nat) :
    (0 < dist n last ∧ accOk true last bits n = true ∧ accLast true last n = n) ∨
    (¬ 0 < dist n last ∧ (dist n last < -32 ∨ acked last bits n = true) ∧ accOk true last bits n = false ∧ accLast true last n = last ∧ accBits true last bits n = bits) ∨
    (¬ 0 < dist n last ∧ ¬ dist n last < -32 ∧ acked last bits n = false ∧ accOk true last bits n = true ∧ accLast true last n = last ∧ accBits true last bits n ≠ bits ∧ acked last (accBits true last bits n) n = true) := by
  have hd := dist_lo n last
  have hd2 := dist_lo last n
  by_cases h1 : 0 < dist n last
  · refine .inl ⟨h1, ?_, ?_⟩
    · unfold accOk; rw [if_pos rfl, if_pos h1]
    · unfold accLast; rw [if_neg (by omega)]
  · have e2 : accLast true last n = last := by unfold accLast; rw [if_pos ⟨rfl, by omega⟩]
    have hneg : dist n last ≠ -32768 → dist last n = -dist n last := by unfold dist; omega
    by_cases h2 : dist n last = 0 ∨ dist n last < -32 ∨ bit bits (-dist n last - 1).toNat = true
    · refine .inr (.inl ⟨h1, ?_, ?_, e2, ?_⟩)
      · by_cases h3 : dist n last < -32
        · exact .inl h3
        · refine .inr ?_
          have e := hneg (by omega)
          unfold acked
          rw [e, if_neg (by omega)]
          rcases h2 with h | h | h
          · rw [if_neg (by omega)]
          · omega
          · split
            · exact h
            · rfl
      · unfold accOk; rw [if_pos rfl, if_neg h1, if_pos h2]
      · unfold accBits; rw [if_pos rfl, if_neg h1, if_pos h2]
    · have h3 : ¬ dist n last < -32 := fun h => h2 (.inr (.inl h))
      have e := hneg (by omega)
      have hb : bit bits (-dist n last - 1).toNat = false := by
        rcases hx : bit bits (-dist n last - 1).toNat with _ | _
        · rfl
        · exact absurd (.inr (.inr hx)) h2
      have h4 : 0 < -dist n last := by omega
      have e3 : accBits true last bits n = bits ||| 2 ^ (-dist n last - 1).toNat := by unfold accBits; rw [if_pos rfl, if_neg h1, if_neg h2]
      refine .inr (.inr ⟨h1, h3, ?_, ?_, e2, ?_, ?_⟩)
      · unfold acked; rw [e, if_neg (by omega), if_pos h4]; exact hb
      · unfold accOk; rw [if_pos rfl, if_neg h1, if_neg h2]
      · rw [e3]
        intro h
        have := bit_or bits (-dist n last - 1).toNat
        rw [h, hb] at this
        cases this
      · rw [e3]; unfold acked; rw [e, if_neg (by omega), if_pos h4]; exact bit_or _ _

set_option maxHeartbeats 1000000 in
theorem far (A : Option Addr) (m cap : Nat) (l : List Int) (n : Int) (w : World) (hm : m ≤ 9223372036854775807)
    (hR : Rd w w.heap.size A m (l.map (Value.int .u16))) :
    Calls Try.prog 7 #[.slice A m cap, .int .u16 n] w fun e w' => e = .returned (.bool true) ∧ Below w.heap.size w w' := by
  have HR := Lib.hid hR
  clear hR
  go_enter Try.func7, Try.ntmps7
  go_wp2_with fail
  refine (shown_calls w).mono ?_
  rintro e w1 ⟨rfl, hB1⟩
  have HB0 := Lib.hid ((Below.refl w1.heap.size w1).alloc (Nat.le_refl _) (.cells #[.bool false, .int .u16 0, .int .u32 0] 32))
  have HB1 := Lib.hid hB1
  have HZ := Lib.hid hB1.size
  have HW0 := Lib.hid (Win.new w1)
  obtain ⟨g, hg⟩ : ∃ g, w1.heap.size = g := ⟨_, rfl⟩
  clear hB1
  go_wp2_with fail
  obtain ⟨w2, hw2⟩ : ∃ w2, w1.alloc (.cells #[.bool false, .int .u16 0, .int .u32 0] 32) = w2 := ⟨_, rfl⟩
  have hz2 : g < w2.heap.size := by rw [← hw2, ← hg]; simp
  rw [hw2] at HB0 HW0
  rw [hw2]
  rw [hg] at HB0 HW0 HZ
  have HBw := Lib.hid (HB1.out.trans (HB0.out.mono HZ.out))
  have Hw2 := Lib.hid hw2
  clear hw2
  have Hg := Lib.hid hg
  clear hg
  go_loopw [7] (fun i wr => ∃ k : Nat, k ≤ m ∧ k ≤ 50 ∧ i = .int .i64 k ∧ Hid (∃ s last bits, Win wr g s last bits ∧ bits < 4294967296) ∧ Hid (Below w.heap.size w wr)) (fun i _ => m - (intOf i).toNat)
  case atStart => exact ⟨0, by omega, by omega, rfl, Lib.hid ⟨false, 0, 0, HW0.out, by decide⟩, HBw⟩
  case round =>
    obtain ⟨k, hk, hk50, rfl, HW, HBr⟩ := hrel
    obtain ⟨s, last, bits, hW, hb⟩ := HW.out
    have HW' := Lib.hid hW
    clear hW
    by_cases hlt : k < m ∧ k < 50
    · obtain ⟨hlt, hlt50⟩ := hlt
      obtain ⟨b, off, u, rfl, hbb, hu, hc0⟩ := HR.out.at_ hlt
      obtain ⟨x, hc⟩ : ∃ x : Int, w.cell? ⟨b, off + k, none⟩ = some (.int .u16 x) := by
        rw [List.getElem?_map] at hu
        obtain ⟨x, _, rfl⟩ := Option.map_eq_some_iff.1 hu
        exact ⟨x, hc0⟩
      have hcr := (HBr.out.cell (p := ⟨b, off + k, none⟩) hbb).trans hc
      clear hc0 hu hc
      go_wp2_with fail
      refine (accept_calls g s last bits x wr HW'.out hb).mono ?_
      rintro e w3 ⟨rfl, hW3, hg3⟩
      have HW3 := Lib.hid (show ∃ s last bits, Win w3 g s last bits ∧ bits < 4294967296 from ⟨_, _, _, hW3, accBits_lt hb⟩)
      have HB3 := Lib.hid (HBr.out.grown hg3 HBr.out.size (fun q e => by cases e; exact HZ.out))
      clear hW3 hg3
      go_wp2_with fail
      go_roundw
      case rel => exact ⟨k + 1, by omega, by omega, by go_num, HW3, HB3⟩
      case measure => simp [intOf]; omega
    · have Hany := Lib.hid (any_calls g s last bits wr HW'.out)
      have Hacc := Lib.hid (accept_calls g s last bits n wr HW'.out hb)
      have hstop : ¬ (k < m ∧ k < 50) := hlt
      rcases (show ¬ k < m ∨ (k < m ∧ k = 50) by omega) with h | ⟨h, rfl⟩
      all_goals
        clear hlt hstop
        cases s with
        | false =>
          go_wp2_with fail
          refine Hany.out.mono ?_
          rintro e w3 ⟨rfl, rfl⟩
          go_wp2_with fail
          refine Hacc.out.mono ?_
          have ok : accOk false last bits n = true := rfl
          rw [ok]
          rintro e w3 ⟨rfl, hW3, hg3⟩
          have HB3 := Lib.hid (HBr.out.grown hg3 HBr.out.size (fun q e => by cases e; exact HZ.out))
          clear hW3 hg3 ok
          go_wp2
          go_ret
          exact ⟨rfl, HB3.out⟩
        | true =>
          have HD := Lib.hid (dist_calls n last)
          have HK := Lib.hid (fun w => acked_calls last bits n w hb)
          have hd := dist_lo n last
          have hbn := accBits_lt (s := true) (last := last) (bits := bits) (n := n) hb
          rcases far_cases last n bits with ⟨f0, f1, f2⟩ | ⟨f0, f3, f1, f2, f4⟩ | ⟨f0, f3, f5, f1, f2, f4, f6⟩
          · generalize accBits true last bits n = bn at *
            have Hf := Lib.hid (show accOk true last bits n = true ∧ accLast true last n = n from ⟨f1, f2⟩)
            generalize dist n last = d at *
            generalize acked last bits n = kn at *
            clear f1 f2
            obtain ⟨f1, f2⟩ := Hf.out
            have F1 := Lib.hid f1
            have F2 := Lib.hid f2
            clear f1 f2
            go_wp2_with fail
            refine Hany.out.mono ?_
            rintro e w3 ⟨rfl, rfl⟩
            go_wp2_with fail
            refine (ack_calls g true last bits wr HW'.out).mono ?_
            rintro e w3 ⟨rfl, q, rfl⟩
            go_wp2_with fail
            with_reducible refine (HD.out _).mono ?_
            rintro e w3 ⟨rfl, rfl⟩
            go_wp2_with fail
            with_reducible refine (HK.out _).mono ?_
            rintro e w3 ⟨rfl, rfl⟩
            go_wp2_with fail
            refine (accept_calls g true last bits n (wr.drewN q) (HW'.out.drawn q) hb).mono ?_
            rw [F1.out, F2.out]
            rintro e w3 ⟨rfl, hW3, hg3⟩
            have HB3 := Lib.hid ((below_drawn HBr.out q).grown hg3 HBr.out.size (fun q e => by cases e; exact HZ.out))
            have HW3 := Lib.hid hW3
            clear hW3 hg3
            go_wp2_with fail
            refine (ack_calls g true _ _ w3 HW3.out).mono ?_
            rintro e w4 ⟨rfl, q2, rfl⟩
            go_wp2
            go_ret
            exact ⟨rfl, below_drawn HB3.out q2⟩
          · have F1 := Lib.hid f1
            have F2 := Lib.hid f2
            have F4 := Lib.hid f4
            clear f1 f2 f4 hbn
            generalize dist n last = d at *
            generalize acked last bits n = kn at *
            by_cases h32 : d < -32
            · clear f3
              go_wp2_with fail
              refine Hany.out.mono ?_
              rintro e w3 ⟨rfl, rfl⟩
              go_wp2_with fail
              refine (ack_calls g true last bits wr HW'.out).mono ?_
              rintro e w3 ⟨rfl, q, rfl⟩
              go_wp2_with fail
              with_reducible refine (HD.out _).mono ?_
              rintro e w3 ⟨rfl, rfl⟩
              go_wp2_with fail
              with_reducible refine (HK.out _).mono ?_
              rintro e w3 ⟨rfl, rfl⟩
              go_wp2_with fail
              refine (accept_calls g true last bits n (wr.drewN q) (HW'.out.drawn q) hb).mono ?_
              rw [F1.out, F2.out, F4.out]
              rintro e w3 ⟨rfl, hW3, hg3⟩
              have HB3 := Lib.hid ((below_drawn HBr.out q).grown hg3 HBr.out.size (fun q e => by cases e; exact HZ.out))
              have HW3 := Lib.hid hW3
              clear hW3 hg3
              go_wp2_with fail
              refine (ack_calls g true _ _ w3 HW3.out).mono ?_
              rintro e w4 ⟨rfl, q2, rfl⟩
              go_wp2
              go_ret
              exact ⟨rfl, below_drawn HB3.out q2⟩
            · obtain rfl : kn = true := by rcases f3 with h | h
                                           · exact absurd h h32
                                           · exact h
              clear f3
              go_wp2_with fail
              refine Hany.out.mono ?_
              rintro e w3 ⟨rfl, rfl⟩
              go_wp2_with fail
              refine (ack_calls g true last bits wr HW'.out).mono ?_
              rintro e w3 ⟨rfl, q, rfl⟩
              go_wp2_with fail
              with_reducible refine (HD.out _).mono ?_
              rintro e w3 ⟨rfl, rfl⟩
              go_wp2_with fail
              with_reducible refine (HK.out _).mono ?_
              rintro e w3 ⟨rfl, rfl⟩
              go_wp2_with fail
              refine (accept_calls g true last bits n (wr.drewN q) (HW'.out.drawn q) hb).mono ?_
              rw [F1.out, F2.out, F4.out]
              rintro e w3 ⟨rfl, hW3, hg3⟩
              have HB3 := Lib.hid ((below_drawn HBr.out q).grown hg3 HBr.out.size (fun q e => by cases e; exact HZ.out))
              have HW3 := Lib.hid hW3
              clear hW3 hg3
              go_wp2_with fail
              refine (ack_calls g true _ _ w3 HW3.out).mono ?_
              rintro e w4 ⟨rfl, q2, rfl⟩
              go_wp2
              go_ret
              exact ⟨rfl, below_drawn HB3.out q2⟩
          · have F1 := Lib.hid f1
            have F2 := Lib.hid f2
            have HK2 := Lib.hid (fun w => acked_calls last (accBits true last bits n) n w hbn)
            rw [f6] at HK2
            clear f1 f2 f6 hbn
            rw [f5] at HK
            have e1 : ((accBits true last bits n : Int) == (bits : Int)) = false := beq_eq_false_iff_ne.2 (by omega)
            have e2 : ((accBits true last bits n : Int) != (bits : Int)) = true := by rw [bne_iff_ne]; omega
            clear f4 f5
            generalize dist n last = d at *
            go_wp2_with fail
            refine Hany.out.mono ?_
            rintro e w3 ⟨rfl, rfl⟩
            go_wp2_with fail
            refine (ack_calls g true last bits wr HW'.out).mono ?_
            rintro e w3 ⟨rfl, q, rfl⟩
            go_wp2_with fail
            with_reducible refine (HD.out _).mono ?_
            rintro e w3 ⟨rfl, rfl⟩
            go_wp2_with fail
            with_reducible refine (HK.out _).mono ?_
            rintro e w3 ⟨rfl, rfl⟩
            go_wp2_with fail
            refine (accept_calls g true last bits n (wr.drewN q) (HW'.out.drawn q) hb).mono ?_
            rw [F1.out, F2.out]
            rintro e w3 ⟨rfl, hW3, hg3⟩
            have HB3 := Lib.hid ((below_drawn HBr.out q).grown hg3 HBr.out.size (fun q e => by cases e; exact HZ.out))
            have HW3 := Lib.hid hW3
            clear hW3 hg3
            go_wp2_with fail
            refine (ack_calls g true _ _ w3 HW3.out).mono ?_
            rintro e w4 ⟨rfl, q2, rfl⟩
            go_wp2_with fail
            with_reducible refine (HK2.out _).mono ?_
            rintro e w5 ⟨rfl, rfl⟩
            go_wp2
            go_ret
            exact ⟨rfl, below_drawn HB3.out q2⟩
end Go.Proofs.Ythcianalnhdgjaa
