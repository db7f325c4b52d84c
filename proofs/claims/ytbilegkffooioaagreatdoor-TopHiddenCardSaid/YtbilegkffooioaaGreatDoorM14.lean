/-
  Calls of the whole game, reckoned by the kernel.
-/
import Derived.Test.YtbilegkffooioaaGreatDoorM12
namespace Go.Ev
open Go.Proofs
set_option maxRecDepth 100000
noncomputable def q7 : Pc := ⟨189, [(.slice (some ⟨484, 0, some 0⟩) 2 2)], 486,
  [(0, (C 83 true [(I 14), (I 6), (I 8)])),
  (1, (C 83 true [(I 10), (I 9), (I 64)])),
  (2, (C 421 true [(.int .u16 (.ofNat 0)), (.int .u16 (.ofNat 4129)), (.int .u16 (.ofNat 8258)), (.int .u16 (.ofNat 12387)), (.int .u16 (.ofNat 16516)), (.int .u16 (.ofNat 20645)), (.int .u16 (.ofNat 24774)), (.int .u16 (.ofNat 28903)), (.int .u16 (.ofNat 33032)), (.int .u16 (.ofNat 37161)), (.int .u16 (.ofNat 41290)), (.int .u16 (.ofNat 45419)), (.int .u16 (.ofNat 49548)), (.int .u16 (.ofNat 53677)), (.int .u16 (.ofNat 57806)), (.int .u16 (.ofNat 61935))])),
  (450, (C 5 false [(Y 128), (Y 0), (Y 0), (Y 1), (Y 64), (Y 0), (Y 192), (Y 0), (Y 32), (Y 0), (Y 96), (Y 0), (Y 16), (Y 0), (Y 48), (Y 0), (Y 0), (Y 128), (Y 0), (Y 0), (Y 50), (Y 16), (Y 0), (Y 0), (Y 0), (Y 168), (Y 0), (Y 0), (Y 0), (Y 40), (Y 0)])),
  (484, (C 146 false [(I 6), (.int .u16 (.ofNat 0)), (.int .u16 (.ofNat 0)), (Y 0), (.int .i8 (.ofNat 0)), (.int .i8 (.ofNat 0)), (I 0), (.int .u16 (.ofNat 0)), (I 0), (I 0), (I 0), (I 0), (I 0), (I 0), (I 196608), (I 196608), (I 196608), (I 0), (I 0), (I 0), (.int .u32 (.ofNat 0)), (.int .u32 (.ofNat 0)), (.slice none 0 0), (I 9), (.int .u16 (.ofNat 0)), (.int .u16 (.ofNat 0)), (Y 0), (.int .i8 (.ofNat 0)), (.int .i8 (.ofNat 0)), (I 0), (.int .u16 (.ofNat 0)), (I 0), (I 0), (I 0), (I 0), (I 0), (I 0), (I 0), (I 0), (I 0), (I 0), (I 0), (I 0), (.int .u32 (.ofNat 1)), (.int .u32 (.ofNat 0)), (.slice (some ⟨450, 0, some 0⟩) 31 31)]))],
  (.tuple #[(.slice (some ⟨680, 0, some 0⟩) 68 68), (I 0)]), 681,
  [(680, (C 5 false [(Y 19), (Y 0), (Y 0), (Y 0), (Y 1), (Y 128), (Y 0), (Y 0), (Y 1), (Y 128), (Y 0), (Y 0), (Y 1), (Y 128), (Y 0), (Y 0), (Y 0), (Y 0), (Y 0), (Y 0), (Y 0), (Y 0), (Y 0), (Y 0), (Y 0), (Y 0), (Y 0), (Y 72), (Y 0), (Y 0), (Y 0), (Y 8), (Y 0), (Y 0), (Y 0), (Y 0), (Y 63), (Y 0), (Y 0), (Y 0), (Y 2), (Y 128), (Y 1), (Y 128), (Y 0), (Y 64), (Y 0), (Y 192), (Y 0), (Y 32), (Y 0), (Y 96), (Y 0), (Y 1), (Y 0), (Y 0), (Y 0), (Y 100), (Y 32), (Y 0), (Y 0), (Y 1), (Y 80), (Y 0), (Y 0), (Y 0), (Y 80), (Y 0)]))]⟩
theorem q7_right : q7.Right Tryz.prog 3 :=
  piece (tb := []) (fun _ h => nomatch h) q7 (fn := Tryz.f189) Tryz.func189 (low (by kernel_rfl)) (by kernel_rfl) (by kernel_rfl) (d := 40) (by kernel_rfl)

noncomputable def q8 : Pc := ⟨129, [(.agg #[(.int .u16 (.ofNat 0)), (.bool true), (.int .u16 (.ofNat 0)), (.int .u32 (.ofNat 0)), (.slice (some ⟨484, 0, some 0⟩) 2 2)])], 485,
  [(0, (C 83 true [(I 14), (I 6), (I 8)])),
  (1, (C 83 true [(I 10), (I 9), (I 64)])),
  (2, (C 421 true [(.int .u16 (.ofNat 0)), (.int .u16 (.ofNat 4129)), (.int .u16 (.ofNat 8258)), (.int .u16 (.ofNat 12387)), (.int .u16 (.ofNat 16516)), (.int .u16 (.ofNat 20645)), (.int .u16 (.ofNat 24774)), (.int .u16 (.ofNat 28903)), (.int .u16 (.ofNat 33032)), (.int .u16 (.ofNat 37161)), (.int .u16 (.ofNat 41290)), (.int .u16 (.ofNat 45419)), (.int .u16 (.ofNat 49548)), (.int .u16 (.ofNat 53677)), (.int .u16 (.ofNat 57806)), (.int .u16 (.ofNat 61935))])),
  (450, (C 5 false [(Y 128), (Y 0), (Y 0), (Y 1), (Y 64), (Y 0), (Y 192), (Y 0), (Y 32), (Y 0), (Y 96), (Y 0), (Y 16), (Y 0), (Y 48), (Y 0), (Y 0), (Y 128), (Y 0), (Y 0), (Y 50), (Y 16), (Y 0), (Y 0), (Y 0), (Y 168), (Y 0), (Y 0), (Y 0), (Y 40), (Y 0)])),
  (484, (C 146 false [(I 6), (.int .u16 (.ofNat 0)), (.int .u16 (.ofNat 0)), (Y 0), (.int .i8 (.ofNat 0)), (.int .i8 (.ofNat 0)), (I 0), (.int .u16 (.ofNat 0)), (I 0), (I 0), (I 0), (I 0), (I 0), (I 0), (I 196608), (I 196608), (I 196608), (I 0), (I 0), (I 0), (.int .u32 (.ofNat 0)), (.int .u32 (.ofNat 0)), (.slice none 0 0), (I 9), (.int .u16 (.ofNat 0)), (.int .u16 (.ofNat 0)), (Y 0), (.int .i8 (.ofNat 0)), (.int .i8 (.ofNat 0)), (I 0), (.int .u16 (.ofNat 0)), (I 0), (I 0), (I 0), (I 0), (I 0), (I 0), (I 0), (I 0), (I 0), (I 0), (I 0), (I 0), (.int .u32 (.ofNat 1)), (.int .u32 (.ofNat 0)), (.slice (some ⟨450, 0, some 0⟩) 31 31)]))],
  (.tuple #[(.slice (some ⟨703, 0, some 0⟩) 79 79), (I 0)]), 704,
  [(703, (C 5 false [(Y 0), (Y 0), (Y 1), (Y 0), (Y 0), (Y 0), (Y 0), (Y 0), (Y 0), (Y 19), (Y 0), (Y 0), (Y 0), (Y 1), (Y 128), (Y 0), (Y 0), (Y 1), (Y 128), (Y 0), (Y 0), (Y 1), (Y 128), (Y 0), (Y 0), (Y 0), (Y 0), (Y 0), (Y 0), (Y 0), (Y 0), (Y 0), (Y 0), (Y 0), (Y 0), (Y 0), (Y 72), (Y 0), (Y 0), (Y 0), (Y 8), (Y 0), (Y 0), (Y 0), (Y 0), (Y 63), (Y 0), (Y 0), (Y 0), (Y 2), (Y 128), (Y 1), (Y 128), (Y 0), (Y 64), (Y 0), (Y 192), (Y 0), (Y 32), (Y 0), (Y 96), (Y 0), (Y 1), (Y 0), (Y 0), (Y 0), (Y 100), (Y 32), (Y 0), (Y 0), (Y 1), (Y 80), (Y 0), (Y 0), (Y 0), (Y 80), (Y 0), (Y 160), (Y 8)]))]⟩
theorem q8_right : q8.Right Tryz.prog 3 :=
  piece (tb := [q7]) (List.forall_mem_cons.2 ⟨q7_right, fun _ h => nomatch h⟩) q8 (fn := Tryz.f129) Tryz.func129 (low (by kernel_rfl)) (by kernel_rfl) (by kernel_rfl) (d := 40) (by kernel_rfl)
end Go.Ev
/-
  Calls of the whole game, reckoned by the kernel.
-/
namespace Go.Ev
open Go.Proofs
set_option maxRecDepth 100000
noncomputable def q9 : Pc := ⟨189, [(.slice (some ⟨706, 0, some 0⟩) 3 3)], 708,
  [(0, (C 83 true [(I 14), (I 6), (I 8)])),
  (1, (C 83 true [(I 10), (I 9), (I 64)])),
  (2, (C 421 true [(.int .u16 (.ofNat 0)), (.int .u16 (.ofNat 4129)), (.int .u16 (.ofNat 8258)), (.int .u16 (.ofNat 12387)), (.int .u16 (.ofNat 16516)), (.int .u16 (.ofNat 20645)), (.int .u16 (.ofNat 24774)), (.int .u16 (.ofNat 28903)), (.int .u16 (.ofNat 33032)), (.int .u16 (.ofNat 37161)), (.int .u16 (.ofNat 41290)), (.int .u16 (.ofNat 45419)), (.int .u16 (.ofNat 49548)), (.int .u16 (.ofNat 53677)), (.int .u16 (.ofNat 57806)), (.int .u16 (.ofNat 61935))])),
  (450, (C 5 false [(Y 128), (Y 0), (Y 0), (Y 1), (Y 64), (Y 0), (Y 192), (Y 0), (Y 32), (Y 0), (Y 96), (Y 0), (Y 16), (Y 0), (Y 48), (Y 0), (Y 0), (Y 128), (Y 0), (Y 0), (Y 50), (Y 16), (Y 0), (Y 0), (Y 0), (Y 168), (Y 0), (Y 0), (Y 0), (Y 40), (Y 0)])),
  (706, (C 146 false [(I 6), (.int .u16 (.ofNat 0)), (.int .u16 (.ofNat 0)), (Y 0), (.int .i8 (.ofNat 0)), (.int .i8 (.ofNat 0)), (I 0), (.int .u16 (.ofNat 0)), (I 0), (I 0), (I 0), (I 0), (I 0), (I 0), (I 196608), (I 196608), (I 196608), (I 0), (I 0), (I 0), (.int .u32 (.ofNat 0)), (.int .u32 (.ofNat 0)), (.slice none 0 0), (I 9), (.int .u16 (.ofNat 0)), (.int .u16 (.ofNat 0)), (Y 0), (.int .i8 (.ofNat 0)), (.int .i8 (.ofNat 0)), (I 0), (.int .u16 (.ofNat 0)), (I 0), (I 0), (I 0), (I 0), (I 0), (I 0), (I 0), (I 0), (I 0), (I 0), (I 0), (I 0), (.int .u32 (.ofNat 1)), (.int .u32 (.ofNat 0)), (.slice (some ⟨450, 0, some 0⟩) 31 31), (I 5), (.int .u16 (.ofNat 0)), (.int .u16 (.ofNat 0)), (Y 0), (.int .i8 (.ofNat 0)), (.int .i8 (.ofNat 0)), (I 0), (.int .u16 (.ofNat 0)), (I 1), (I 0), (I 0), (I 0), (I 0), (I 0), (I 0), (I 0), (I 0), (I 0), (I 0), (I 0), (.int .u32 (.ofNat 0)), (.int .u32 (.ofNat 0)), (.slice none 0 0)]))],
  (.tuple #[(.slice (some ⟨921, 0, some 0⟩) 73 73), (I 0)]), 922,
  [(921, (C 5 false [(Y 27), (Y 0), (Y 0), (Y 0), (Y 1), (Y 128), (Y 0), (Y 0), (Y 1), (Y 128), (Y 0), (Y 0), (Y 1), (Y 128), (Y 0), (Y 0), (Y 0), (Y 0), (Y 0), (Y 0), (Y 0), (Y 0), (Y 0), (Y 0), (Y 0), (Y 0), (Y 0), (Y 72), (Y 0), (Y 0), (Y 0), (Y 8), (Y 0), (Y 0), (Y 0), (Y 0), (Y 63), (Y 0), (Y 0), (Y 0), (Y 2), (Y 128), (Y 1), (Y 128), (Y 0), (Y 64), (Y 0), (Y 192), (Y 0), (Y 32), (Y 0), (Y 96), (Y 0), (Y 1), (Y 0), (Y 0), (Y 0), (Y 100), (Y 32), (Y 0), (Y 0), (Y 1), (Y 80), (Y 0), (Y 0), (Y 0), (Y 80), (Y 0), (Y 160), (Y 0), (Y 0), (Y 0), (Y 64)]))]⟩
theorem q9_right : q9.Right Tryz.prog 3 :=
  piece (tb := []) (fun _ h => nomatch h) q9 (fn := Tryz.f189) Tryz.func189 (low (by kernel_rfl)) (by kernel_rfl) (by kernel_rfl) (d := 40) (by kernel_rfl)

noncomputable def q10 : Pc := ⟨129, [(.agg #[(.int .u16 (.ofNat 0)), (.bool true), (.int .u16 (.ofNat 0)), (.int .u32 (.ofNat 0)), (.slice (some ⟨706, 0, some 0⟩) 3 3)])], 707,
  [(0, (C 83 true [(I 14), (I 6), (I 8)])),
  (1, (C 83 true [(I 10), (I 9), (I 64)])),
  (2, (C 421 true [(.int .u16 (.ofNat 0)), (.int .u16 (.ofNat 4129)), (.int .u16 (.ofNat 8258)), (.int .u16 (.ofNat 12387)), (.int .u16 (.ofNat 16516)), (.int .u16 (.ofNat 20645)), (.int .u16 (.ofNat 24774)), (.int .u16 (.ofNat 28903)), (.int .u16 (.ofNat 33032)), (.int .u16 (.ofNat 37161)), (.int .u16 (.ofNat 41290)), (.int .u16 (.ofNat 45419)), (.int .u16 (.ofNat 49548)), (.int .u16 (.ofNat 53677)), (.int .u16 (.ofNat 57806)), (.int .u16 (.ofNat 61935))])),
  (450, (C 5 false [(Y 128), (Y 0), (Y 0), (Y 1), (Y 64), (Y 0), (Y 192), (Y 0), (Y 32), (Y 0), (Y 96), (Y 0), (Y 16), (Y 0), (Y 48), (Y 0), (Y 0), (Y 128), (Y 0), (Y 0), (Y 50), (Y 16), (Y 0), (Y 0), (Y 0), (Y 168), (Y 0), (Y 0), (Y 0), (Y 40), (Y 0)])),
  (706, (C 146 false [(I 6), (.int .u16 (.ofNat 0)), (.int .u16 (.ofNat 0)), (Y 0), (.int .i8 (.ofNat 0)), (.int .i8 (.ofNat 0)), (I 0), (.int .u16 (.ofNat 0)), (I 0), (I 0), (I 0), (I 0), (I 0), (I 0), (I 196608), (I 196608), (I 196608), (I 0), (I 0), (I 0), (.int .u32 (.ofNat 0)), (.int .u32 (.ofNat 0)), (.slice none 0 0), (I 9), (.int .u16 (.ofNat 0)), (.int .u16 (.ofNat 0)), (Y 0), (.int .i8 (.ofNat 0)), (.int .i8 (.ofNat 0)), (I 0), (.int .u16 (.ofNat 0)), (I 0), (I 0), (I 0), (I 0), (I 0), (I 0), (I 0), (I 0), (I 0), (I 0), (I 0), (I 0), (.int .u32 (.ofNat 1)), (.int .u32 (.ofNat 0)), (.slice (some ⟨450, 0, some 0⟩) 31 31), (I 5), (.int .u16 (.ofNat 0)), (.int .u16 (.ofNat 0)), (Y 0), (.int .i8 (.ofNat 0)), (.int .i8 (.ofNat 0)), (I 0), (.int .u16 (.ofNat 0)), (I 1), (I 0), (I 0), (I 0), (I 0), (I 0), (I 0), (I 0), (I 0), (I 0), (I 0), (I 0), (.int .u32 (.ofNat 0)), (.int .u32 (.ofNat 0)), (.slice none 0 0)]))],
  (.tuple #[(.slice (some ⟨944, 0, some 0⟩) 84 84), (I 0)]), 945,
  [(944, (C 5 false [(Y 0), (Y 0), (Y 1), (Y 0), (Y 0), (Y 0), (Y 0), (Y 0), (Y 0), (Y 27), (Y 0), (Y 0), (Y 0), (Y 1), (Y 128), (Y 0), (Y 0), (Y 1), (Y 128), (Y 0), (Y 0), (Y 1), (Y 128), (Y 0), (Y 0), (Y 0), (Y 0), (Y 0), (Y 0), (Y 0), (Y 0), (Y 0), (Y 0), (Y 0), (Y 0), (Y 0), (Y 72), (Y 0), (Y 0), (Y 0), (Y 8), (Y 0), (Y 0), (Y 0), (Y 0), (Y 63), (Y 0), (Y 0), (Y 0), (Y 2), (Y 128), (Y 1), (Y 128), (Y 0), (Y 64), (Y 0), (Y 192), (Y 0), (Y 32), (Y 0), (Y 96), (Y 0), (Y 1), (Y 0), (Y 0), (Y 0), (Y 100), (Y 32), (Y 0), (Y 0), (Y 1), (Y 80), (Y 0), (Y 0), (Y 0), (Y 80), (Y 0), (Y 160), (Y 0), (Y 0), (Y 0), (Y 64), (Y 172), (Y 131)]))]⟩
theorem q10_right : q10.Right Tryz.prog 3 :=
  piece (tb := [q9]) (List.forall_mem_cons.2 ⟨q9_right, fun _ h => nomatch h⟩) q10 (fn := Tryz.f129) Tryz.func129 (low (by kernel_rfl)) (by kernel_rfl) (by kernel_rfl) (d := 40) (by kernel_rfl)
end Go.Ev
