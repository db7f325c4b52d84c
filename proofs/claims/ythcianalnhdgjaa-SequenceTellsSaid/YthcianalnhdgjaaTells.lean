/-
  The law SequenceTells, walked: for any numbers and bits it returns true and writes nothing that was there.
-/
import Derived.Test.YthcianalnhdgjaaShown
namespace Go.Proofs.Ythcianalnhdgjaa
open Go.RowKit

set_option maxHeartbeats 1000000 in
theorem tells (a b bits : Nat) (w : World) (ha : a < 65536) (hb : b < 65536) (hbits : bits < 4294967296) :
    Calls Try.prog 3 #[.int .u16 (a : Int), .int .u16 (b : Int), .int .u32 (bits : Int)] w fun e w' => e = .returned (.bool true) ∧ Below w.heap.size w w' := by
  go_enter Try.func3, Try.ntmps3
  go_wp2_with fail
  refine (shown_calls w).mono ?_
  rintro e w1 ⟨rfl, hB1⟩
  have HB1 := Lib.hid hB1
  clear hB1
  have H1 := Lib.hid (refdist_calls a b w1 ha hb)
  have H2 := Lib.hid (dist_calls a b w1)
  have H3 := Lib.hid (newer_calls a b w1)
  have H4 := Lib.hid (acked_calls a bits b w1 hbits)
  have H5 := Lib.hid (refacked_calls a bits b w1 ha hb)
  generalize acked a bits b = r at *
  generalize dist a b = d at *
  go_wp2_with fail
  refine H1.out.mono ?_
  rintro e w2 ⟨rfl, rfl⟩
  go_wp2_with fail
  refine H2.out.mono ?_
  rintro e w2 ⟨rfl, rfl⟩
  go_wp2_with fail
  refine H3.out.mono ?_
  rintro e w2 ⟨rfl, rfl⟩
  go_wp2_with fail
  refine H4.out.mono ?_
  rintro e w2 ⟨rfl, rfl⟩
  go_wp2_with fail
  refine H5.out.mono ?_
  rintro e w2 ⟨rfl, rfl⟩
  go_wp2
  go_ret
  exact ⟨rfl, HB1.out⟩
end Go.Proofs.Ythcianalnhdgjaa
