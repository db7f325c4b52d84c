/-
  Calls of the whole game, reckoned by the kernel.
-/
import Derived.Test.YtbilegkffooioaaGreatDoorM12
import Derived.Test.YtbilegkffooioaaGreatDoorM13
import Derived.Test.YtbilegkffooioaaGreatDoorM14
namespace Go.Ev
open Go.Proofs
set_option maxRecDepth 100000
noncomputable def q11 : Pc := ⟨17, [(.pointer (some ⟨72, 0, none⟩))], 264,
  [(0, (C 83 true [(I 14), (I 6), (I 8)])),
  (1, (C 83 true [(I 10), (I 9), (I 64)])),
  (2, (C 421 true [(.int .u16 (.ofNat 0)), (.int .u16 (.ofNat 4129)), (.int .u16 (.ofNat 8258)), (.int .u16 (.ofNat 12387)), (.int .u16 (.ofNat 16516)), (.int .u16 (.ofNat 20645)), (.int .u16 (.ofNat 24774)), (.int .u16 (.ofNat 28903)), (.int .u16 (.ofNat 33032)), (.int .u16 (.ofNat 37161)), (.int .u16 (.ofNat 41290)), (.int .u16 (.ofNat 45419)), (.int .u16 (.ofNat 49548)), (.int .u16 (.ofNat 53677)), (.int .u16 (.ofNat 57806)), (.int .u16 (.ofNat 61935))])),
  (65, (C 4 false [(.bool true), (.bool true), (.bool true), (.bool true), (.bool true), (.bool true), (.bool true), (.bool true), (.bool true), (.bool true), (.bool true), (.bool true), (.bool true), (.bool true), (.bool true), (.bool true), (.bool true), (.bool true), (.bool true), (.bool true), (.bool true), (.bool true), (.bool true), (.bool true), (.bool true), (.bool true), (.bool true), (.bool true), (.bool true), (.bool true), (.bool true), (.bool true), (.bool true), (.bool true), (.bool true), (.bool true), (.bool false), (.bool false), (.bool false), (.bool false), (.bool false), (.bool false), (.bool false), (.bool false), (.bool false), (.bool false), (.bool false), (.bool false), (.bool false), (.bool false), (.bool false), (.bool false), (.bool false), (.bool false), (.bool false), (.bool false), (.bool false), (.bool false), (.bool false), (.bool false), (.bool false), (.bool false), (.bool false), (.bool false), (.bool false), (.bool false), (.bool false), (.bool false), (.bool false), (.bool false), (.bool false), (.bool false), (.bool false), (.bool false), (.bool false), (.bool false), (.bool false), (.bool false), (.bool false), (.bool false), (.bool false), (.bool false), (.bool false), (.bool false), (.bool false), (.bool false), (.bool false), (.bool false), (.bool false), (.bool false), (.bool false), (.bool false), (.bool false), (.bool false), (.bool false), (.bool false), (.bool false), (.bool false), (.bool false), (.bool false), (.bool false), (.bool false), (.bool false), (.bool false), (.bool false), (.bool false), (.bool false), (.bool false), (.bool false), (.bool false), (.bool false), (.bool false), (.bool false), (.bool false), (.bool false), (.bool false), (.bool false), (.bool false), (.bool false), (.bool false), (.bool false), (.bool false), (.bool false), (.bool false), (.bool false), (.bool false), (.bool false), (.bool false), (.bool false), (.bool false), (.bool false), (.bool false), (.bool false), (.bool false), (.bool false), (.bool false), (.bool false), (.bool false), (.bool false), (.bool false), (.bool false), (.bool false), (.bool false), (.bool false), (.bool false), (.bool false), (.bool false), (.bool false), (.bool false), (.bool false), (.bool false), (.bool false), (.bool false), (.bool false), (.bool false), (.bool false), (.bool false), (.bool false), (.bool false), (.bool false), (.bool false), (.bool false), (.bool false), (.bool false), (.bool false), (.bool false), (.bool false), (.bool false), (.bool false), (.bool false), (.bool false), (.bool false), (.bool false), (.bool false), (.bool false), (.bool false), (.bool false), (.bool false), (.bool false), (.bool false), (.bool false), (.bool false), (.bool false), (.bool false), (.bool false), (.bool false), (.bool false), (.bool false), (.bool false), (.bool false), (.bool false), (.bool false), (.bool false), (.bool false), (.bool false), (.bool false), (.bool false), (.bool false), (.bool false), (.bool false), (.bool false), (.bool false), (.bool false), (.bool false), (.bool false), (.bool false), (.bool false), (.bool false), (.bool false), (.bool false), (.bool false), (.bool false), (.bool false), (.bool false), (.bool false), (.bool false)])),
  (67, (C 35 false [(I 196608), (I 196608), (I 196608)])),
  (68, (C 171 true [(I 6), (I 6), (I 6), (.slice (some ⟨65, 0, some 0⟩) 216 216), (.slice (some ⟨67, 0, some 0⟩) 1 1), (I 0), (.slice none 0 0), (.slice none 0 0), (I 0), (I 0)])),
  (69, (.obj (.map #[] 0))),
  (70, (.obj (.map #[] 0))),
  (71, (C 225 true [(.map (some 69)), (.map (some 70))])),
  (72, (C 130 true [(.pointer (some ⟨68, 0, none⟩)), (.pointer none), (.pointer none), (.pointer none), (.pointer none), (.pointer none), (.pointer (some ⟨261, 0, none⟩)), (.pointer none), (.pointer none), (.pointer none), (.pointer none), (.pointer none), (.pointer none), (.pointer none), (.pointer none), (.pointer none), (.pointer none), (.pointer (some ⟨71, 0, none⟩)), (I 0)])),
  (251, (.obj (.map #[] 0))),
  (258, (.obj (.chan 32 #[(.slice (some ⟨263, 0, some 0⟩) 13 13)] false 1 0 false))),
  (259, (C 248 true [(.chan (some 258)), (I 0)])),
  (260, (C 231 true [(.int .u16 (.ofNat 0)), (.slice none 0 0), (.slice none 0 0), (.bool false), (.int .u16 (.ofNat 0)), (.int .u32 (.ofNat 0)), (I 0), (.bool false), (.int .u32 (.ofNat 0))])),
  (261, (C 159 true [(.pointer (some ⟨259, 0, none⟩)), (.pointer (some ⟨260, 0, none⟩)), (.int .u32 (.ofNat 0)), (I 0), (.bool false), (.int .u16 (.ofNat 0)), (.int .u32 (.ofNat 0)), (.map (some 251))])),
  (263, (C 5 false [(Y 0), (Y 0), (Y 0), (Y 0), (Y 0), (Y 0), (Y 0), (Y 0), (Y 0), (Y 8), (Y 128), (Y 204), (Y 46)]))],
  (.slice (some ⟨950, 0, some 0⟩) 1 1), 951,
  [(68, (C 171 true [(I 6), (I 6), (I 6), (.slice (some ⟨65, 0, some 0⟩) 216 216), (.slice (some ⟨67, 0, some 0⟩) 1 1), (I 1), (.slice (some ⟨305, 0, some 0⟩) 1 1), (.slice none 0 0), (I 1), (I 0)])),
  (251, (.obj (.map #[⟨(.int .u32 (.ofNat 1)), (.agg #[(.slice (some ⟨364, 0, some 0⟩) 1 1), (.slice none 0 0)]), 0⟩] 1))),
  (258, (.obj (.chan 32 #[] false 1 1 false))),
  (260, (C 231 true [(.int .u16 (.ofNat 1)), (.slice (some ⟨324, 0, some 0⟩) 1 1), (.slice (some ⟨948, 0, some 0⟩) 1 1), (.bool true), (.int .u16 (.ofNat 0)), (.int .u32 (.ofNat 0)), (I 0), (.bool false), (.int .u32 (.ofNat 0))])),
  (261, (C 159 true [(.pointer (some ⟨259, 0, none⟩)), (.pointer (some ⟨260, 0, none⟩)), (.int .u32 (.ofNat 0)), (I 1), (.bool false), (.int .u16 (.ofNat 0)), (.int .u32 (.ofNat 0)), (.map (some 251))])),
  (303, (C 261 true [(I 1), (I 196608), (I 196608), (I 196608), (I 0), (I 0), (I 0), (.bool false), (I 100), (I 0), (I 0), (I 10), (I 5), (I 0), (I 0), (I 9)])),
  (305, (C 257 false [(.pointer (some ⟨303, 0, none⟩))])),
  (322, (C 236 true [(I 5), (.int .u16 (.ofNat 0)), (.int .u16 (.ofNat 0)), (Y 0), (.int .i8 (.ofNat 0)), (.int .i8 (.ofNat 0)), (I 0), (.int .u16 (.ofNat 0)), (I 1), (I 0), (I 0), (I 0), (I 0), (I 0), (I 0), (I 0), (I 0), (I 0), (I 0), (I 0), (.int .u32 (.ofNat 0)), (.int .u32 (.ofNat 0)), (.slice none 0 0), (.bool false)])),
  (324, (C 234 false [(.pointer (some ⟨322, 0, none⟩))])),
  (364, (C 38 false [(I 1), (I 196608), (I 196608), (I 196608), (I 0), (I 0), (I 0), (.bool false), (I 100), (I 0), (I 0), (I 10), (I 5), (I 0), (I 0)])),
  (944, (C 5 false [(Y 0), (Y 0), (Y 1), (Y 0), (Y 0), (Y 0), (Y 0), (Y 0), (Y 0), (Y 27), (Y 0), (Y 0), (Y 0), (Y 1), (Y 128), (Y 0), (Y 0), (Y 1), (Y 128), (Y 0), (Y 0), (Y 1), (Y 128), (Y 0), (Y 0), (Y 0), (Y 0), (Y 0), (Y 0), (Y 0), (Y 0), (Y 0), (Y 0), (Y 0), (Y 0), (Y 0), (Y 72), (Y 0), (Y 0), (Y 0), (Y 8), (Y 0), (Y 0), (Y 0), (Y 0), (Y 63), (Y 0), (Y 0), (Y 0), (Y 2), (Y 128), (Y 1), (Y 128), (Y 0), (Y 64), (Y 0), (Y 192), (Y 0), (Y 32), (Y 0), (Y 96), (Y 0), (Y 1), (Y 0), (Y 0), (Y 0), (Y 100), (Y 32), (Y 0), (Y 0), (Y 1), (Y 80), (Y 0), (Y 0), (Y 0), (Y 80), (Y 0), (Y 160), (Y 0), (Y 0), (Y 0), (Y 64), (Y 172), (Y 131)])),
  (946, (C 234 false [(.pointer (some ⟨322, 0, none⟩))])),
  (948, (C 245 false [(.int .u16 (.ofNat 0)), (.int .u32 (.ofNat 1)), (.slice (some ⟨946, 0, some 0⟩) 1 1)])),
  (950, (C 66 false [(I 5), (.slice (some ⟨944, 0, some 0⟩) 84 84)]))]⟩
theorem q11_right : q11.Right Tryz.prog 3 :=
  piece (tb := [q6, q8, q10]) (List.forall_mem_cons.2 ⟨q6_right, List.forall_mem_cons.2 ⟨q8_right, List.forall_mem_cons.2 ⟨q10_right, fun _ h => nomatch h⟩⟩⟩) q11 (fn := Tryz.f17) Tryz.func17 (low (by kernel_rfl)) (by kernel_rfl) (by kernel_rfl) (d := 40) (by kernel_rfl)
end Go.Ev
/-
  Calls of the whole game, reckoned by the kernel.
-/
namespace Go.Ev
open Go.Proofs
set_option maxRecDepth 100000
noncomputable def q12 : Pc := ⟨206, [(.slice (some ⟨944, 9, some 0⟩) 73 75)], 972,
  [(0, (C 83 true [(I 14), (I 6), (I 8)])),
  (1, (C 83 true [(I 10), (I 9), (I 64)])),
  (2, (C 421 true [(.int .u16 (.ofNat 0)), (.int .u16 (.ofNat 4129)), (.int .u16 (.ofNat 8258)), (.int .u16 (.ofNat 12387)), (.int .u16 (.ofNat 16516)), (.int .u16 (.ofNat 20645)), (.int .u16 (.ofNat 24774)), (.int .u16 (.ofNat 28903)), (.int .u16 (.ofNat 33032)), (.int .u16 (.ofNat 37161)), (.int .u16 (.ofNat 41290)), (.int .u16 (.ofNat 45419)), (.int .u16 (.ofNat 49548)), (.int .u16 (.ofNat 53677)), (.int .u16 (.ofNat 57806)), (.int .u16 (.ofNat 61935))])),
  (944, (C 5 false [(Y 0), (Y 0), (Y 1), (Y 0), (Y 0), (Y 0), (Y 0), (Y 0), (Y 0), (Y 27), (Y 0), (Y 0), (Y 0), (Y 1), (Y 128), (Y 0), (Y 0), (Y 1), (Y 128), (Y 0), (Y 0), (Y 1), (Y 128), (Y 0), (Y 0), (Y 0), (Y 0), (Y 0), (Y 0), (Y 0), (Y 0), (Y 0), (Y 0), (Y 0), (Y 0), (Y 0), (Y 72), (Y 0), (Y 0), (Y 0), (Y 8), (Y 0), (Y 0), (Y 0), (Y 0), (Y 63), (Y 0), (Y 0), (Y 0), (Y 2), (Y 128), (Y 1), (Y 128), (Y 0), (Y 64), (Y 0), (Y 192), (Y 0), (Y 32), (Y 0), (Y 96), (Y 0), (Y 1), (Y 0), (Y 0), (Y 0), (Y 100), (Y 32), (Y 0), (Y 0), (Y 1), (Y 80), (Y 0), (Y 0), (Y 0), (Y 80), (Y 0), (Y 160), (Y 0), (Y 0), (Y 0), (Y 64), (Y 172), (Y 131)]))],
  (.tuple #[(.slice (some ⟨1059, 0, some 0⟩) 3 3), (I 0)]), 1060,
  [(1052, (C 5 false [(Y 128), (Y 0), (Y 0), (Y 1), (Y 64), (Y 0), (Y 192), (Y 0), (Y 32), (Y 0), (Y 96), (Y 0), (Y 16), (Y 0), (Y 48), (Y 0), (Y 0), (Y 128), (Y 0), (Y 0), (Y 50), (Y 16), (Y 0), (Y 0), (Y 0), (Y 168), (Y 0), (Y 0), (Y 0), (Y 40), (Y 0)])),
  (1059, (C 146 false [(I 6), (.int .u16 (.ofNat 0)), (.int .u16 (.ofNat 0)), (Y 0), (.int .i8 (.ofNat 0)), (.int .i8 (.ofNat 0)), (I 0), (.int .u16 (.ofNat 0)), (I 0), (I 0), (I 0), (I 0), (I 0), (I 0), (I 196608), (I 196608), (I 196608), (I 0), (I 0), (I 0), (.int .u32 (.ofNat 0)), (.int .u32 (.ofNat 0)), (.slice none 0 0), (I 9), (.int .u16 (.ofNat 0)), (.int .u16 (.ofNat 0)), (Y 0), (.int .i8 (.ofNat 0)), (.int .i8 (.ofNat 0)), (I 0), (.int .u16 (.ofNat 0)), (I 0), (I 0), (I 0), (I 0), (I 0), (I 0), (I 0), (I 0), (I 0), (I 0), (I 0), (I 0), (.int .u32 (.ofNat 1)), (.int .u32 (.ofNat 0)), (.slice (some ⟨1052, 0, some 0⟩) 31 31), (I 5), (.int .u16 (.ofNat 0)), (.int .u16 (.ofNat 0)), (Y 0), (.int .i8 (.ofNat 0)), (.int .i8 (.ofNat 0)), (I 0), (.int .u16 (.ofNat 0)), (I 1), (I 0), (I 0), (I 0), (I 0), (I 0), (I 0), (I 0), (I 0), (I 0), (I 0), (I 0), (.int .u32 (.ofNat 0)), (.int .u32 (.ofNat 0)), (.slice none 0 0)]))]⟩
theorem q12_right : q12.Right Tryz.prog 3 :=
  piece (tb := []) (fun _ h => nomatch h) q12 (fn := Tryz.f206) Tryz.func206 (low (by kernel_rfl)) (by kernel_rfl) (by kernel_rfl) (d := 40) (by kernel_rfl)

noncomputable def q13 : Pc := ⟨142, [(.slice (some ⟨944, 0, some 0⟩) 84 84)], 953,
  [(0, (C 83 true [(I 14), (I 6), (I 8)])),
  (1, (C 83 true [(I 10), (I 9), (I 64)])),
  (2, (C 421 true [(.int .u16 (.ofNat 0)), (.int .u16 (.ofNat 4129)), (.int .u16 (.ofNat 8258)), (.int .u16 (.ofNat 12387)), (.int .u16 (.ofNat 16516)), (.int .u16 (.ofNat 20645)), (.int .u16 (.ofNat 24774)), (.int .u16 (.ofNat 28903)), (.int .u16 (.ofNat 33032)), (.int .u16 (.ofNat 37161)), (.int .u16 (.ofNat 41290)), (.int .u16 (.ofNat 45419)), (.int .u16 (.ofNat 49548)), (.int .u16 (.ofNat 53677)), (.int .u16 (.ofNat 57806)), (.int .u16 (.ofNat 61935))])),
  (944, (C 5 false [(Y 0), (Y 0), (Y 1), (Y 0), (Y 0), (Y 0), (Y 0), (Y 0), (Y 0), (Y 27), (Y 0), (Y 0), (Y 0), (Y 1), (Y 128), (Y 0), (Y 0), (Y 1), (Y 128), (Y 0), (Y 0), (Y 1), (Y 128), (Y 0), (Y 0), (Y 0), (Y 0), (Y 0), (Y 0), (Y 0), (Y 0), (Y 0), (Y 0), (Y 0), (Y 0), (Y 0), (Y 72), (Y 0), (Y 0), (Y 0), (Y 8), (Y 0), (Y 0), (Y 0), (Y 0), (Y 63), (Y 0), (Y 0), (Y 0), (Y 2), (Y 128), (Y 1), (Y 128), (Y 0), (Y 64), (Y 0), (Y 192), (Y 0), (Y 32), (Y 0), (Y 96), (Y 0), (Y 1), (Y 0), (Y 0), (Y 0), (Y 100), (Y 32), (Y 0), (Y 0), (Y 1), (Y 80), (Y 0), (Y 0), (Y 0), (Y 80), (Y 0), (Y 160), (Y 0), (Y 0), (Y 0), (Y 64), (Y 172), (Y 131)]))],
  (.tuple #[(.agg #[(.int .u16 (.ofNat 0)), (.bool true), (.int .u16 (.ofNat 0)), (.int .u32 (.ofNat 0)), (.slice (some ⟨1059, 0, some 0⟩) 3 3)]), (I 0)]), 1060,
  [(1052, (C 5 false [(Y 128), (Y 0), (Y 0), (Y 1), (Y 64), (Y 0), (Y 192), (Y 0), (Y 32), (Y 0), (Y 96), (Y 0), (Y 16), (Y 0), (Y 48), (Y 0), (Y 0), (Y 128), (Y 0), (Y 0), (Y 50), (Y 16), (Y 0), (Y 0), (Y 0), (Y 168), (Y 0), (Y 0), (Y 0), (Y 40), (Y 0)])),
  (1059, (C 146 false [(I 6), (.int .u16 (.ofNat 0)), (.int .u16 (.ofNat 0)), (Y 0), (.int .i8 (.ofNat 0)), (.int .i8 (.ofNat 0)), (I 0), (.int .u16 (.ofNat 0)), (I 0), (I 0), (I 0), (I 0), (I 0), (I 0), (I 196608), (I 196608), (I 196608), (I 0), (I 0), (I 0), (.int .u32 (.ofNat 0)), (.int .u32 (.ofNat 0)), (.slice none 0 0), (I 9), (.int .u16 (.ofNat 0)), (.int .u16 (.ofNat 0)), (Y 0), (.int .i8 (.ofNat 0)), (.int .i8 (.ofNat 0)), (I 0), (.int .u16 (.ofNat 0)), (I 0), (I 0), (I 0), (I 0), (I 0), (I 0), (I 0), (I 0), (I 0), (I 0), (I 0), (I 0), (.int .u32 (.ofNat 1)), (.int .u32 (.ofNat 0)), (.slice (some ⟨1052, 0, some 0⟩) 31 31), (I 5), (.int .u16 (.ofNat 0)), (.int .u16 (.ofNat 0)), (Y 0), (.int .i8 (.ofNat 0)), (.int .i8 (.ofNat 0)), (I 0), (.int .u16 (.ofNat 0)), (I 1), (I 0), (I 0), (I 0), (I 0), (I 0), (I 0), (I 0), (I 0), (I 0), (I 0), (I 0), (.int .u32 (.ofNat 0)), (.int .u32 (.ofNat 0)), (.slice none 0 0)]))]⟩
theorem q13_right : q13.Right Tryz.prog 3 :=
  piece (tb := [q12]) (List.forall_mem_cons.2 ⟨q12_right, fun _ h => nomatch h⟩) q13 (fn := Tryz.f142) Tryz.func142 (low (by kernel_rfl)) (by kernel_rfl) (by kernel_rfl) (d := 40) (by kernel_rfl)
end Go.Ev
