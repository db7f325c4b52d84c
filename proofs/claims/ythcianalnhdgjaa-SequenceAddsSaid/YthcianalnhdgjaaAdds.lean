/-
  The law SequenceAdds, walked: for any number and any two ways it returns true and writes nothing that was there.
-/
import Derived.Test.YthcianalnhdgjaaShown
namespace Go.Proofs.Ythcianalnhdgjaa
open Go.RowKit

theorem tmod_lo (n : Int) : -16000 ≤ n.tmod 16001 ∧ n.tmod 16001 ≤ 16000 := by
  rcases Int.le_total 0 n with h | h
  · rw [Int.tmod_eq_emod_of_nonneg h]; omega
  · obtain ⟨k, rfl⟩ : ∃ k, n = -k := ⟨-n, by omega⟩
    rw [Int.neg_tmod, Int.tmod_eq_emod_of_nonneg (by omega)]; omega
set_option maxHeartbeats 1000000 in
theorem adds (a p q : Int) (w : World) :
    Calls Try.prog 8 #[.int .u16 a, .int .i64 p, .int .i64 q] w fun e w' => e = .returned (.bool true) ∧ Below w.heap.size w w' := by
  obtain ⟨x, hx⟩ : ∃ x, p.tmod 16001 = x := ⟨_, rfl⟩
  obtain ⟨y, hy⟩ : ∃ y, q.tmod 16001 = y := ⟨_, rfl⟩
  have hxl : -16000 ≤ x ∧ x ≤ 16000 := by rw [← hx]; exact tmod_lo p
  have hyl : -16000 ≤ y ∧ y ≤ 16000 := by rw [← hy]; exact tmod_lo q
  obtain ⟨b, hb⟩ : ∃ b, IntKind.u16.wrap (a + IntKind.u16.wrap x) = b := ⟨_, rfl⟩
  have hb2 : IntKind.u16.wrap (a + x) = b := by rw [← hb, IntKind.wrap_u16, IntKind.wrap_u16, IntKind.wrap_u16]; omega
  obtain ⟨c, hc⟩ : ∃ c, IntKind.u16.wrap (b + IntKind.u16.wrap y) = c := ⟨_, rfl⟩
  have hc2 : IntKind.u16.wrap (b + y) = c := by rw [← hc, IntKind.wrap_u16, IntKind.wrap_u16, IntKind.wrap_u16]; omega
  have e1 : dist b a = x := by rw [← hb, IntKind.wrap_u16, IntKind.wrap_u16]; unfold dist; omega
  have e2 : dist c b = y := by rw [← hc, IntKind.wrap_u16, IntKind.wrap_u16]; unfold dist; omega
  have e3 : dist c a = x + y := by rw [← hc, ← hb, IntKind.wrap_u16, IntKind.wrap_u16, IntKind.wrap_u16, IntKind.wrap_u16]; unfold dist; omega
  have F1 : Hid (∀ w, Calls Try.prog 12 #[.int .u16 b, .int .u16 a] w fun e w' => e = .returned (.int .i64 x) ∧ w = w') := Lib.hid (fun w => by have := dist_calls b a w; rwa [e1] at this)
  have F2 : Hid (∀ w, Calls Try.prog 12 #[.int .u16 c, .int .u16 b] w fun e w' => e = .returned (.int .i64 y) ∧ w = w') := Lib.hid (fun w => by have := dist_calls c b w; rwa [e2] at this)
  have F3 : Hid (∀ w, Calls Try.prog 12 #[.int .u16 c, .int .u16 a] w fun e w' => e = .returned (.int .i64 (x + y)) ∧ w = w') := Lib.hid (fun w => by have := dist_calls c a w; rwa [e3] at this)
  have F4 : Hid (∀ w, Calls Try.prog 13 #[.int .u16 c, .int .u16 a] w fun e w' => e = .returned (.bool (decide (0 < x + y))) ∧ w = w') := Lib.hid (fun w => by have := newer_calls c a w; rwa [e3] at this)
  clear e1 e2 e3
  by_cases h1 : x ≤ 0
  · go_enter Try.func8, Try.ntmps8
    go_wp2_with fail
    refine (shown_calls w).mono ?_
    rintro e w1 ⟨rfl, hB1⟩
    have HB1 := Lib.hid hB1
    clear hB1
    go_wp2_with fail
    with_reducible refine (F1.out _).mono ?_
    rintro e w2 ⟨rfl, rfl⟩
    go_wp2_with fail
    with_reducible refine (F2.out _).mono ?_
    rintro e w2 ⟨rfl, rfl⟩
    go_wp2_with fail
    with_reducible refine (F3.out _).mono ?_
    rintro e w2 ⟨rfl, rfl⟩
    go_wp2
    go_ret
    exact ⟨rfl, HB1.out⟩
  by_cases h2 : y ≤ 0
  · go_enter Try.func8, Try.ntmps8
    go_wp2_with fail
    refine (shown_calls w).mono ?_
    rintro e w1 ⟨rfl, hB1⟩
    have HB1 := Lib.hid hB1
    clear hB1
    go_wp2_with fail
    with_reducible refine (F1.out _).mono ?_
    rintro e w2 ⟨rfl, rfl⟩
    go_wp2_with fail
    with_reducible refine (F2.out _).mono ?_
    rintro e w2 ⟨rfl, rfl⟩
    go_wp2_with fail
    with_reducible refine (F3.out _).mono ?_
    rintro e w2 ⟨rfl, rfl⟩
    go_wp2
    go_ret
    exact ⟨rfl, HB1.out⟩
  · have q1 : decide (0 < x + y) = true := by simp; omega
    rw [q1] at F4
    go_enter Try.func8, Try.ntmps8
    go_wp2_with fail
    refine (shown_calls w).mono ?_
    rintro e w1 ⟨rfl, hB1⟩
    have HB1 := Lib.hid hB1
    clear hB1
    go_wp2_with fail
    with_reducible refine (F1.out _).mono ?_
    rintro e w2 ⟨rfl, rfl⟩
    go_wp2_with fail
    with_reducible refine (F2.out _).mono ?_
    rintro e w2 ⟨rfl, rfl⟩
    go_wp2_with fail
    with_reducible refine (F3.out _).mono ?_
    rintro e w2 ⟨rfl, rfl⟩
    go_wp2_with fail
    with_reducible refine (F4.out _).mono ?_
    rintro e w2 ⟨rfl, rfl⟩
    go_wp2
    go_ret
    exact ⟨rfl, HB1.out⟩
end Go.Proofs.Ythcianalnhdgjaa
