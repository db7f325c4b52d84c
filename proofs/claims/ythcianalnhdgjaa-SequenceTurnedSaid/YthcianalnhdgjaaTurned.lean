/-
  The law SequenceTurned, walked: for any three numbers it returns true and writes nothing that was there.
-/
import Derived.Test.YthcianalnhdgjaaShown
namespace Go.Proofs.Ythcianalnhdgjaa
open Go.RowKit

theorem and1023 (y : Nat) (h : y < 65536) : bits BinOp.and IntKind.u16 (y : Int) 1023 = ((y % 1024 : Nat) : Int) := by
  have := u16_and_nat y 1023 h (by decide)
  rw [show ((1023 : Nat) : Int) = 1023 from rfl] at this
  rw [this]
  have e := Nat.and_two_pow_sub_one_eq_mod y 10
  simp only [Nat.reducePow, Nat.reduceSub] at e
  rw [e]
theorem dist_moved (a b y : Int) : dist (IntKind.u16.wrap (a + y)) (IntKind.u16.wrap (b + y)) = dist a b := by
  rw [IntKind.wrap_u16, IntKind.wrap_u16]; unfold dist; omega
theorem dist_on (a s : Int) (h0 : 0 ≤ s) (h1 : s < 1024) : dist (IntKind.u16.wrap (a + s)) a = s := by
  rw [IntKind.wrap_u16]; unfold dist; omega
theorem dist_back (a s : Int) (h0 : 0 ≤ s) (h1 : s < 1024) : dist a (IntKind.u16.wrap (a + s)) = -s := by
  rw [IntKind.wrap_u16]; unfold dist; omega
theorem back_to (a b : Int) (ha : 0 ≤ a ∧ a < 65536) : (IntKind.u16.wrap (b + IntKind.u16.wrap (dist a b)) == a) = true := by
  rw [IntKind.wrap_u16, IntKind.wrap_u16]; unfold dist
  rw [beq_iff_eq]; omega
set_option maxHeartbeats 1000000 in
theorem turned (a b y : Nat) (w : World) (ha : a < 65536) (hb : b < 65536) (hy : y < 65536) :
    Calls Try.prog 5 #[.int .u16 (a : Int), .int .u16 (b : Int), .int .u16 (y : Int)] w fun e w' => e = .returned (.bool true) ∧ Below w.heap.size w w' := by
  have es := and1023 y hy
  obtain ⟨s, hs, hs2⟩ : ∃ s : Nat, Hid (y % 1024 = s) ∧ s < 1024 := ⟨_, Lib.hid rfl, Nat.mod_lt _ (by decide)⟩
  rw [hs.out] at es
  obtain ⟨d, Hd⟩ : ∃ d, Hid (dist a b = d) := ⟨_, Lib.hid rfl⟩
  have hdl : -32768 ≤ d ∧ d ≤ 32767 := by rw [← Hd.out]; exact dist_lo _ _
  have F0 : Hid (∀ w, Calls Try.prog 12 #[.int .u16 (a : Int), .int .u16 (b : Int)] w fun e w' => e = .returned (.int .i64 d) ∧ w = w') := Lib.hid (fun w => by have := dist_calls a b w; rwa [Hd.out] at this)
  have F1 : Hid (∀ w, Calls Try.prog 12 #[.int .u16 (IntKind.u16.wrap ((a : Int) + y)), .int .u16 (IntKind.u16.wrap ((b : Int) + y))] w fun e w' => e = .returned (.int .i64 d) ∧ w = w') := Lib.hid (fun w => by have := dist_calls (IntKind.u16.wrap ((a : Int) + y)) (IntKind.u16.wrap ((b : Int) + y)) w; rwa [dist_moved, Hd.out] at this)
  have F3 : Hid (∀ w, Calls Try.prog 13 #[.int .u16 (a : Int), .int .u16 (b : Int)] w fun e w' => e = .returned (.bool (decide (0 < d))) ∧ w = w') := Lib.hid (fun w => by have := newer_calls a b w; rwa [Hd.out] at this)
  have F5 : Hid (∀ w, Calls Try.prog 12 #[.int .u16 (IntKind.u16.wrap ((a : Int) + s)), .int .u16 (a : Int)] w fun e w' => e = .returned (.int .i64 (s : Int)) ∧ w = w') := Lib.hid (fun w => by have := dist_calls (IntKind.u16.wrap ((a : Int) + s)) a w; rwa [dist_on _ _ (by omega) (by omega)] at this)
  have F6 : Hid (∀ w, Calls Try.prog 12 #[.int .u16 (a : Int), .int .u16 (IntKind.u16.wrap ((a : Int) + s))] w fun e w' => e = .returned (.int .i64 (-(s : Int))) ∧ w = w') := Lib.hid (fun w => by have := dist_calls a (IntKind.u16.wrap ((a : Int) + s)) w; rwa [dist_back _ _ (by omega) (by omega)] at this)
  have Fb := back_to a b (by omega)
  rw [Hd.out] at Fb
  have Fb2 : (IntKind.u16.wrap ((b : Int) + d) == (a : Int)) = true := by rw [← Fb, IntKind.wrap_u16, IntKind.wrap_u16, IntKind.wrap_u16]; congr 1; omega
  by_cases hh : d = -32768
  · have hne : (d == -32768) = true := beq_iff_eq.2 hh
    have hh2 := Lib.hid hh
    clear hh
    go_enter Try.func5, Try.ntmps5
    go_wp2_with fail
    refine (shown_calls w).mono ?_
    rintro e w1 ⟨rfl, hB1⟩
    have HB1 := Lib.hid hB1
    clear hB1
    go_wp2_with fail
    with_reducible refine (F0.out _).mono ?_
    rintro e w2 ⟨rfl, rfl⟩
    go_wp2_with fail
    simp only [List.append_eq, List.cons_append, List.nil_append] at *
    with_reducible refine (F1.out _).mono ?_
    rintro e w2 ⟨rfl, rfl⟩
    go_wp2_with fail
    with_reducible refine (F5.out _).mono ?_
    rintro e w2 ⟨rfl, rfl⟩
    go_wp2_with fail
    with_reducible refine (F6.out _).mono ?_
    rintro e w2 ⟨rfl, rfl⟩
    go_wp2
    go_ret
    exact ⟨rfl, HB1.out⟩
  have hne : (d == -32768) = false := beq_eq_false_iff_ne.2 hh
  have e2 : dist b a = -d := by rw [← Hd.out] at hh ⊢; unfold dist at *; omega
  have F2 : Hid (∀ w, Calls Try.prog 12 #[.int .u16 (b : Int), .int .u16 (a : Int)] w fun e w' => e = .returned (.int .i64 (-d)) ∧ w = w') := Lib.hid (fun w => by have := dist_calls b a w; rwa [e2] at this)
  have F4 : Hid (∀ w, Calls Try.prog 13 #[.int .u16 (b : Int), .int .u16 (a : Int)] w fun e w' => e = .returned (.bool (decide (0 < -d))) ∧ w = w') := Lib.hid (fun w => by have := newer_calls b a w; rwa [e2] at this)
  have hz : d = 0 ↔ a = b := by rw [← Hd.out]; unfold dist; omega
  clear hh e2
  by_cases hab : a = b
  · obtain rfl : d = 0 := hz.2 hab
    clear hz
    subst hab
    go_enter Try.func5, Try.ntmps5
    go_wp2_with fail
    refine (shown_calls w).mono ?_
    rintro e w1 ⟨rfl, hB1⟩
    have HB1 := Lib.hid hB1
    clear hB1
    go_wp2_with fail
    with_reducible refine (F0.out _).mono ?_
    rintro e w2 ⟨rfl, rfl⟩
    go_wp2_with fail
    simp only [List.append_eq, List.cons_append, List.nil_append] at *
    with_reducible refine (F1.out _).mono ?_
    rintro e w2 ⟨rfl, rfl⟩
    go_wp2_with fail
    with_reducible refine (F2.out _).mono ?_
    rintro e w2 ⟨rfl, rfl⟩
    go_wp2_with fail
    with_reducible refine (F5.out _).mono ?_
    rintro e w2 ⟨rfl, rfl⟩
    go_wp2_with fail
    with_reducible refine (F6.out _).mono ?_
    rintro e w2 ⟨rfl, rfl⟩
    go_wp2
    go_ret
    exact ⟨rfl, HB1.out⟩
  have hab2 : ((a : Int) == (b : Int)) = false := beq_eq_false_iff_ne.2 (by omega)
  have hd0 : d ≠ 0 := fun h => hab (hz.1 h)
  clear hab hz
  by_cases hp : 0 < d
  · have q1 : decide (0 < d) = true := by simpa using hp
    have q2 : decide (0 < -d) = false := by simp; omega
    rw [q1] at F3
    rw [q2] at F4
    go_enter Try.func5, Try.ntmps5
    go_wp2_with fail
    refine (shown_calls w).mono ?_
    rintro e w1 ⟨rfl, hB1⟩
    have HB1 := Lib.hid hB1
    clear hB1
    go_wp2_with fail
    with_reducible refine (F0.out _).mono ?_
    rintro e w2 ⟨rfl, rfl⟩
    go_wp2_with fail
    simp only [List.append_eq, List.cons_append, List.nil_append] at *
    with_reducible refine (F1.out _).mono ?_
    rintro e w2 ⟨rfl, rfl⟩
    go_wp2_with fail
    with_reducible refine (F2.out _).mono ?_
    rintro e w2 ⟨rfl, rfl⟩
    go_wp2_with fail
    with_reducible refine (F3.out _).mono ?_
    rintro e w2 ⟨rfl, rfl⟩
    go_wp2_with fail
    with_reducible refine (F4.out _).mono ?_
    rintro e w2 ⟨rfl, rfl⟩
    go_wp2_with fail
    with_reducible refine (F5.out _).mono ?_
    rintro e w2 ⟨rfl, rfl⟩
    go_wp2_with fail
    with_reducible refine (F6.out _).mono ?_
    rintro e w2 ⟨rfl, rfl⟩
    go_wp2
    go_ret
    exact ⟨rfl, HB1.out⟩
  · have q1 : decide (0 < d) = false := by simpa using hp
    have q2 : decide (0 < -d) = true := by simp; omega
    rw [q1] at F3
    rw [q2] at F4
    go_enter Try.func5, Try.ntmps5
    go_wp2_with fail
    refine (shown_calls w).mono ?_
    rintro e w1 ⟨rfl, hB1⟩
    have HB1 := Lib.hid hB1
    clear hB1
    go_wp2_with fail
    with_reducible refine (F0.out _).mono ?_
    rintro e w2 ⟨rfl, rfl⟩
    go_wp2_with fail
    simp only [List.append_eq, List.cons_append, List.nil_append] at *
    with_reducible refine (F1.out _).mono ?_
    rintro e w2 ⟨rfl, rfl⟩
    go_wp2_with fail
    with_reducible refine (F2.out _).mono ?_
    rintro e w2 ⟨rfl, rfl⟩
    go_wp2_with fail
    with_reducible refine (F3.out _).mono ?_
    rintro e w2 ⟨rfl, rfl⟩
    go_wp2_with fail
    with_reducible refine (F4.out _).mono ?_
    rintro e w2 ⟨rfl, rfl⟩
    go_wp2_with fail
    with_reducible refine (F5.out _).mono ?_
    rintro e w2 ⟨rfl, rfl⟩
    go_wp2_with fail
    with_reducible refine (F6.out _).mono ?_
    rintro e w2 ⟨rfl, rfl⟩
    go_wp2
    go_ret
    exact ⟨rfl, HB1.out⟩
end Go.Proofs.Ythcianalnhdgjaa
