/-
  What must be in any case (package embrasurelaw06), walked.
-/
import Derived.Test.YthcianalnhdgjaaWin
namespace Go.Proofs.Ythcianalnhdgjaa
open Go.RowKit

theorem Win.new (w : World) : Win (w.alloc (.cells #[.bool false, .int .u16 0, .int .u32 0] 32)) w.heap.size false 0 0 := Blk.new w 32 _
theorem Win.drawn {w : World} {g : Nat} {s : Bool} {last : Int} {bits : Nat} (h : Win w g s last bits) (n : Nat) : Win (w.drewN n) g s last bits := h

set_option maxHeartbeats 1000000 in
theorem shown_calls (w : World) : Calls Try.prog 10 #[] w fun e w' => e = .returned (.bool true) ∧ Below w.heap.size w w' := by
  go_enter Try.func10, Try.ntmps10
  go_wp2_with fail
  have HB := Lib.hid ((Below.refl w.heap.size w).alloc (Nat.le_refl _) (.cells #[.bool false, .int .u16 0, .int .u32 0] 32))
  refine (any_calls w.heap.size false 0 0 _ (Win.new w)).mono ?_
  rintro e w1 ⟨rfl, rfl⟩
  go_wp2_with fail
  have hs : w.heap.size ≤ (w.alloc (.cells #[.bool false, .int .u16 0, .int .u32 0] 32)).heap.size := by simp
  refine (accept_calls w.heap.size false 0 0 65535 _ (Win.new w) (by decide)).mono ?_
  rintro e w1 ⟨rfl, hW1, hg1⟩
  have HB1 := Lib.hid (HB.out.grown hg1 hs (fun k e => by cases e; exact Nat.le_refl _))
  have HW1 : Hid (Win w1 w.heap.size true 65535 0) := Lib.hid hW1
  have ok1 : accOk false 0 0 65535 = true := rfl
  rw [ok1]
  clear hs hW1 hg1 ok1
  go_wp2_with fail
  refine (accept_calls w.heap.size true 65535 0 0 w1 HW1.out (by decide)).mono ?_
  rintro e w2 ⟨rfl, hW2, hg2⟩
  have HB2 := Lib.hid (HB1.out.grown hg2 HB1.out.size (fun k e => by cases e; exact Nat.le_refl _))
  have HW2 : Hid (Win w2 w.heap.size true 0 1) := Lib.hid hW2
  have ok2 : accOk true 65535 0 0 = true := by decide
  rw [ok2]
  clear hW2 hg2 ok2
  go_wp2_with fail
  refine (accept_calls w.heap.size true 0 1 65535 w2 HW2.out (by decide)).mono ?_
  rintro e w3 ⟨rfl, hW3, hg3⟩
  have HB3 := Lib.hid (HB2.out.grown hg3 HB2.out.size (fun k e => by cases e; exact Nat.le_refl _))
  have HW3 : Hid (Win w3 w.heap.size true 0 1) := Lib.hid hW3
  have ok3 : accOk true 0 1 65535 = false := by decide
  rw [ok3]
  clear hW3 hg3 ok3
  go_wp2_with fail
  refine (ack_calls w.heap.size true 0 1 w3 HW3.out).mono ?_
  rintro e w4 ⟨rfl, q, rfl⟩
  go_wp2_with fail
  refine (newer_calls 0 65535 _).mono ?_
  have n1 : decide (0 < dist 0 65535) = true := by decide
  rw [n1]
  rintro e w5 ⟨rfl, rfl⟩
  go_wp2_with fail
  refine (newer_calls 5 5 _).mono ?_
  have n2 : decide (0 < dist 5 5) = false := by decide
  rw [n2]
  rintro e w5 ⟨rfl, rfl⟩
  go_wp2_with fail
  refine (dist_calls 0 65535 _).mono ?_
  have n3 : dist 0 65535 = 1 := by decide
  rw [n3]
  rintro e w5 ⟨rfl, rfl⟩
  go_wp2_with fail
  refine (acked_calls 0 1 65535 _ (by decide)).mono ?_
  have n4 : acked 0 1 65535 = true := by decide
  rw [n4]
  rintro e w5 ⟨rfl, rfl⟩
  go_wp2_with fail
  refine (acked_calls 0 1 65534 _ (by decide)).mono ?_
  have n5 : acked 0 1 65534 = false := by decide
  rw [n5]
  rintro e w5 ⟨rfl, rfl⟩
  go_wp2
  go_ret
  exact ⟨rfl, below_drawn HB3.out q⟩
end Go.Proofs.Ythcianalnhdgjaa
