/-
  Calls of the whole game, reckoned by the kernel.
-/
import Derived.Test.YtbilegkffooioaaGreatDoorM12
import Derived.Test.YtbilegkffooioaaGreatDoorM13
import Derived.Test.YtbilegkffooioaaGreatDoorM15
import Derived.Test.YtbilegkffooioaaGreatDoorM16
import Derived.Test.YtbilegkffooioaaGreatDoorM17
import Derived.Test.YtbilegkffooioaaGreatDoorM21
import Derived.Test.YtbilegkffooioaaGreatDoorM23
namespace Go.Ev
open Go.Proofs
set_option maxRecDepth 100000
noncomputable def q37 : Pc := ⟨5, [], 3,
  [(0, (C 83 true [(I 14), (I 6), (I 8)])),
  (1, (C 83 true [(I 10), (I 9), (I 64)])),
  (2, (C 421 true [(.int .u16 (.ofNat 0)), (.int .u16 (.ofNat 4129)), (.int .u16 (.ofNat 8258)), (.int .u16 (.ofNat 12387)), (.int .u16 (.ofNat 16516)), (.int .u16 (.ofNat 20645)), (.int .u16 (.ofNat 24774)), (.int .u16 (.ofNat 28903)), (.int .u16 (.ofNat 33032)), (.int .u16 (.ofNat 37161)), (.int .u16 (.ofNat 41290)), (.int .u16 (.ofNat 45419)), (.int .u16 (.ofNat 49548)), (.int .u16 (.ofNat 53677)), (.int .u16 (.ofNat 57806)), (.int .u16 (.ofNat 61935))]))],
  (.bool true), 3963,
  []⟩
theorem q37_right : q37.Right Tryz.prog 3 :=
  piece (tb := [q4, q11, q15, q16, q21, q31, q36]) (List.forall_mem_cons.2 ⟨q4_right, List.forall_mem_cons.2 ⟨q11_right, List.forall_mem_cons.2 ⟨q15_right, List.forall_mem_cons.2 ⟨q16_right, List.forall_mem_cons.2 ⟨q21_right, List.forall_mem_cons.2 ⟨q31_right, List.forall_mem_cons.2 ⟨q36_right, fun _ h => nomatch h⟩⟩⟩⟩⟩⟩⟩) q37 (fn := Tryz.f5) Tryz.func5 (low (by kernel_rfl)) (by kernel_rfl) (by kernel_rfl) (d := 40) (by kernel_rfl)
end Go.Ev
