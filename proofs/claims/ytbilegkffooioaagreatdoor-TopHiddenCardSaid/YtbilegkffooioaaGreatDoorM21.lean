/-
  Calls of the whole game, reckoned by the kernel.
-/
import Derived.Test.YtbilegkffooioaaGreatDoorM12
import Derived.Test.YtbilegkffooioaaGreatDoorM17
import Derived.Test.YtbilegkffooioaaGreatDoorM18
import Derived.Test.YtbilegkffooioaaGreatDoorM19
import Derived.Test.YtbilegkffooioaaGreatDoorM20
namespace Go.Ev
open Go.Proofs
set_option maxRecDepth 100000
noncomputable def q31 : Pc := ⟨17, [(.pointer (some ⟨72, 0, none⟩))], 1476,
  [(0, (C 83 true [(I 14), (I 6), (I 8)])),
  (1, (C 83 true [(I 10), (I 9), (I 64)])),
  (2, (C 421 true [(.int .u16 (.ofNat 0)), (.int .u16 (.ofNat 4129)), (.int .u16 (.ofNat 8258)), (.int .u16 (.ofNat 12387)), (.int .u16 (.ofNat 16516)), (.int .u16 (.ofNat 20645)), (.int .u16 (.ofNat 24774)), (.int .u16 (.ofNat 28903)), (.int .u16 (.ofNat 33032)), (.int .u16 (.ofNat 37161)), (.int .u16 (.ofNat 41290)), (.int .u16 (.ofNat 45419)), (.int .u16 (.ofNat 49548)), (.int .u16 (.ofNat 53677)), (.int .u16 (.ofNat 57806)), (.int .u16 (.ofNat 61935))])),
  (65, (C 4 false [(.bool true), (.bool true), (.bool true), (.bool true), (.bool true), (.bool true), (.bool true), (.bool true), (.bool true), (.bool true), (.bool true), (.bool true), (.bool true), (.bool true), (.bool true), (.bool true), (.bool true), (.bool true), (.bool true), (.bool true), (.bool true), (.bool true), (.bool true), (.bool true), (.bool true), (.bool true), (.bool true), (.bool true), (.bool true), (.bool true), (.bool true), (.bool true), (.bool true), (.bool true), (.bool true), (.bool true), (.bool false), (.bool false), (.bool false), (.bool false), (.bool false), (.bool false), (.bool false), (.bool false), (.bool false), (.bool false), (.bool false), (.bool false), (.bool false), (.bool false), (.bool false), (.bool false), (.bool false), (.bool false), (.bool false), (.bool false), (.bool false), (.bool false), (.bool false), (.bool false), (.bool false), (.bool false), (.bool false), (.bool false), (.bool false), (.bool false), (.bool false), (.bool false), (.bool false), (.bool false), (.bool false), (.bool false), (.bool false), (.bool false), (.bool false), (.bool false), (.bool false), (.bool false), (.bool false), (.bool false), (.bool false), (.bool false), (.bool false), (.bool false), (.bool false), (.bool false), (.bool false), (.bool false), (.bool false), (.bool false), (.bool false), (.bool false), (.bool false), (.bool false), (.bool false), (.bool false), (.bool false), (.bool false), (.bool false), (.bool false), (.bool false), (.bool false), (.bool false), (.bool false), (.bool false), (.bool false), (.bool false), (.bool false), (.bool false), (.bool false), (.bool false), (.bool false), (.bool false), (.bool false), (.bool false), (.bool false), (.bool false), (.bool false), (.bool false), (.bool false), (.bool false), (.bool false), (.bool false), (.bool false), (.bool false), (.bool false), (.bool false), (.bool false), (.bool false), (.bool false), (.bool false), (.bool false), (.bool false), (.bool false), (.bool false), (.bool false), (.bool false), (.bool false), (.bool false), (.bool false), (.bool false), (.bool false), (.bool false), (.bool false), (.bool false), (.bool false), (.bool false), (.bool false), (.bool false), (.bool false), (.bool false), (.bool false), (.bool false), (.bool false), (.bool false), (.bool false), (.bool false), (.bool false), (.bool false), (.bool false), (.bool false), (.bool false), (.bool false), (.bool false), (.bool false), (.bool false), (.bool false), (.bool false), (.bool false), (.bool false), (.bool false), (.bool false), (.bool false), (.bool false), (.bool false), (.bool false), (.bool false), (.bool false), (.bool false), (.bool false), (.bool false), (.bool false), (.bool false), (.bool false), (.bool false), (.bool false), (.bool false), (.bool false), (.bool false), (.bool false), (.bool false), (.bool false), (.bool false), (.bool false), (.bool false), (.bool false), (.bool false), (.bool false), (.bool false), (.bool false), (.bool false), (.bool false), (.bool false), (.bool false), (.bool false), (.bool false), (.bool false), (.bool false), (.bool false), (.bool false), (.bool false), (.bool false), (.bool false), (.bool false), (.bool false), (.bool false)])),
  (67, (C 35 false [(I 196608), (I 196608), (I 196608)])),
  (68, (C 171 true [(I 6), (I 6), (I 6), (.slice (some ⟨65, 0, some 0⟩) 216 216), (.slice (some ⟨67, 0, some 0⟩) 1 1), (I 1), (.slice (some ⟨305, 0, some 0⟩) 1 1), (.slice none 0 0), (I 1), (I 0)])),
  (69, (.obj (.map #[] 0))),
  (70, (.obj (.map #[] 0))),
  (71, (C 225 true [(.map (some 69)), (.map (some 70))])),
  (72, (C 130 true [(.pointer (some ⟨68, 0, none⟩)), (.pointer none), (.pointer none), (.pointer none), (.pointer none), (.pointer none), (.pointer (some ⟨261, 0, none⟩)), (.pointer none), (.pointer none), (.pointer none), (.pointer none), (.pointer none), (.pointer none), (.pointer none), (.pointer none), (.pointer none), (.pointer none), (.pointer (some ⟨71, 0, none⟩)), (I 0)])),
  (251, (.obj (.map #[⟨(.int .u32 (.ofNat 1)), (.agg #[(.slice (some ⟨364, 0, some 0⟩) 1 1), (.slice none 0 0)]), 0⟩] 1))),
  (258, (.obj (.chan 32 #[(.slice (some ⟨1475, 0, some 0⟩) 36 36)] false 2 1 false))),
  (259, (C 248 true [(.chan (some 258)), (I 0)])),
  (260, (C 231 true [(.int .u16 (.ofNat 1)), (.slice (some ⟨324, 0, some 0⟩) 1 1), (.slice (some ⟨948, 0, some 0⟩) 1 1), (.bool true), (.int .u16 (.ofNat 0)), (.int .u32 (.ofNat 0)), (I 0), (.bool false), (.int .u32 (.ofNat 0))])),
  (261, (C 159 true [(.pointer (some ⟨259, 0, none⟩)), (.pointer (some ⟨260, 0, none⟩)), (.int .u32 (.ofNat 0)), (I 1), (.bool false), (.int .u16 (.ofNat 0)), (.int .u32 (.ofNat 0)), (.map (some 251))])),
  (303, (C 261 true [(I 1), (I 196608), (I 196608), (I 196608), (I 0), (I 0), (I 0), (.bool false), (I 100), (I 0), (I 0), (I 10), (I 5), (I 0), (I 0), (I 9)])),
  (305, (C 257 false [(.pointer (some ⟨303, 0, none⟩))])),
  (322, (C 236 true [(I 5), (.int .u16 (.ofNat 0)), (.int .u16 (.ofNat 0)), (Y 0), (.int .i8 (.ofNat 0)), (.int .i8 (.ofNat 0)), (I 0), (.int .u16 (.ofNat 0)), (I 1), (I 0), (I 0), (I 0), (I 0), (I 0), (I 0), (I 0), (I 0), (I 0), (I 0), (I 0), (.int .u32 (.ofNat 0)), (.int .u32 (.ofNat 0)), (.slice none 0 0), (.bool false)])),
  (324, (C 234 false [(.pointer (some ⟨322, 0, none⟩))])),
  (364, (C 38 false [(I 1), (I 196608), (I 196608), (I 196608), (I 0), (I 0), (I 0), (.bool false), (I 100), (I 0), (I 0), (I 10), (I 5), (I 0), (I 0)])),
  (946, (C 234 false [(.pointer (some ⟨322, 0, none⟩))])),
  (948, (C 245 false [(.int .u16 (.ofNat 0)), (.int .u32 (.ofNat 1)), (.slice (some ⟨946, 0, some 0⟩) 1 1)])),
  (1475, (C 5 false [(Y 0), (Y 1), (Y 1), (Y 0), (Y 0), (Y 0), (Y 0), (Y 0), (Y 0), (Y 25), (Y 0), (Y 0), (Y 143), (Y 224), (Y 10), (Y 64), (Y 0), (Y 0), (Y 0), (Y 64), (Y 0), (Y 0), (Y 0), (Y 0), (Y 3), (Y 0), (Y 1), (Y 128), (Y 0), (Y 0), (Y 0), (Y 2), (Y 0), (Y 0), (Y 245), (Y 169)]))],
  (.slice (some ⟨3661, 0, some 0⟩) 1 1), 3662,
  [(68, (C 171 true [(I 6), (I 6), (I 6), (.slice (some ⟨65, 0, some 0⟩) 216 216), (.slice (some ⟨67, 0, some 0⟩) 1 1), (I 2), (.slice (some ⟨305, 0, some 0⟩) 1 1), (.slice (some ⟨2463, 0, some 0⟩) 1 1), (I 1), (I 1)])),
  (69, (.obj (.map #[⟨(I 5), (.pointer (some ⟨2414, 0, none⟩)), 0⟩] 1))),
  (70, (.obj (.map #[⟨(I 1), (.bool true), 0⟩] 1))),
  (251, (.obj (.map #[⟨(.int .u32 (.ofNat 1)), (.agg #[(.slice (some ⟨364, 0, some 0⟩) 1 1), (.slice none 0 0)]), 0⟩, ⟨(.int .u32 (.ofNat 2)), (.agg #[(.slice (some ⟨2740, 0, some 0⟩) 1 1), (.slice (some ⟨2743, 0, some 0⟩) 1 1)]), 1⟩] 2))),
  (258, (.obj (.chan 32 #[] false 2 2 false))),
  (260, (C 231 true [(.int .u16 (.ofNat 2)), (.slice (some ⟨324, 0, some 0⟩) 1 1), (.slice (some ⟨948, 0, some 0⟩) 1 1), (.bool true), (.int .u16 (.ofNat 1)), (.int .u32 (.ofNat 1)), (I 0), (.bool true), (.int .u32 (.ofNat 1))])),
  (261, (C 159 true [(.pointer (some ⟨259, 0, none⟩)), (.pointer (some ⟨260, 0, none⟩)), (.int .u32 (.ofNat 0)), (I 1), (.bool true), (.int .u16 (.ofNat 1)), (.int .u32 (.ofNat 1)), (.map (some 251))])),
  (303, (C 261 true [(I 1), (I 202500), (I 196608), (I 190464), (I 2884), (I 0), (.int .i64 (.negSucc 3071)), (.bool false), (I 100), (I 0), (I 0), (I 10), (I 4), (I 9), (I 0), (I 7)])),
  (322, (C 236 true [(I 5), (.int .u16 (.ofNat 0)), (.int .u16 (.ofNat 0)), (Y 0), (.int .i8 (.ofNat 0)), (.int .i8 (.ofNat 0)), (I 0), (.int .u16 (.ofNat 0)), (I 1), (I 0), (I 0), (I 0), (I 0), (I 0), (I 0), (I 0), (I 0), (I 0), (I 0), (I 0), (.int .u32 (.ofNat 0)), (.int .u32 (.ofNat 0)), (.slice none 0 0), (.bool true)])),
  (324, (C 234 false [(.pointer (some ⟨2434, 0, none⟩))])),
  (948, (C 245 false [(.int .u16 (.ofNat 1)), (.int .u32 (.ofNat 2)), (.slice (some ⟨3658, 0, some 0⟩) 1 1)])),
  (2413, (.obj (.map #[⟨(.int .u16 (.ofNat 1)), (I 1), 0⟩] 1))),
  (2414, (C 281 true [(.int .u16 (.ofNat 1)), (.map (some 2413))])),
  (2434, (C 236 true [(I 7), (.int .u16 (.ofNat 0)), (.int .u16 (.ofNat 0)), (Y 0), (.int .i8 (.ofNat 0)), (.int .i8 (.ofNat 0)), (I 0), (.int .u16 (.ofNat 1)), (I 1), (I 0), (I 0), (I 0), (I 0), (I 0), (I 0), (I 0), (I 0), (I 0), (I 0), (I 0), (.int .u32 (.ofNat 0)), (.int .u32 (.ofNat 0)), (.slice none 0 0), (.bool false)])),
  (2463, (C 40 false [(I 1), (I 1), (I 1), (I 202500), (I 196608), (I 205824), (I 0), (I 0), (I 15360), (I 59), (.bool false)])),
  (2740, (C 38 false [(I 1), (I 202500), (I 196608), (I 190464), (I 2884), (I 0), (.int .i64 (.negSucc 3071)), (.bool false), (I 100), (I 0), (I 0), (I 10), (I 4), (I 9), (I 0)])),
  (2743, (C 40 false [(I 1), (I 1), (I 1), (I 202500), (I 196608), (I 205824), (I 0), (I 0), (I 15360), (I 59), (.bool false)])),
  (3656, (C 5 false [(Y 0), (Y 1), (Y 1), (Y 0), (Y 1), (Y 0), (Y 0), (Y 0), (Y 1), (Y 27), (Y 0), (Y 0), (Y 128), (Y 1), (Y 139), (Y 130), (Y 0), (Y 1), (Y 128), (Y 0), (Y 0), (Y 1), (Y 116), (Y 0), (Y 0), (Y 0), (Y 5), (Y 162), (Y 0), (Y 0), (Y 0), (Y 0), (Y 127), (Y 255), (Y 250), (Y 0), (Y 72), (Y 0), (Y 0), (Y 0), (Y 16), (Y 0), (Y 0), (Y 0), (Y 8), (Y 129), (Y 0), (Y 0), (Y 0), (Y 2), (Y 128), (Y 1), (Y 139), (Y 130), (Y 32), (Y 0), (Y 93), (Y 0), (Y 16), (Y 0), (Y 0), (Y 180), (Y 71), (Y 255), (Y 255), (Y 208), (Y 0), (Y 16), (Y 0), (Y 0), (Y 0), (Y 72), (Y 0), (Y 0), (Y 0), (Y 73), (Y 0), (Y 0), (Y 0), (Y 2), (Y 128), (Y 0), (Y 0), (Y 0), (Y 192), (Y 0), (Y 0), (Y 0), (Y 96), (Y 0), (Y 98), (Y 224), (Y 144), (Y 0), (Y 48), (Y 0), (Y 8), (Y 0), (Y 25), (Y 32), (Y 1), (Y 0), (Y 0), (Y 60), (Y 0), (Y 128), (Y 0), (Y 0), (Y 29), (Y 128), (Y 224), (Y 0), (Y 32), (Y 0), (Y 0), (Y 0), (Y 64), (Y 61), (Y 51)])),
  (3658, (C 234 false [(.pointer (some ⟨2434, 0, none⟩))])),
  (3661, (C 66 false [(I 5), (.slice (some ⟨3656, 0, some 0⟩) 119 119)]))]⟩
theorem q31_right : q31.Right Tryz.prog 3 :=
  piece (tb := [q23, q24, q25, q26, q28, q30]) (List.forall_mem_cons.2 ⟨q23_right, List.forall_mem_cons.2 ⟨q24_right, List.forall_mem_cons.2 ⟨q25_right, List.forall_mem_cons.2 ⟨q26_right, List.forall_mem_cons.2 ⟨q28_right, List.forall_mem_cons.2 ⟨q30_right, fun _ h => nomatch h⟩⟩⟩⟩⟩⟩) q31 (fn := Tryz.f17) Tryz.func17 (low (by kernel_rfl)) (by kernel_rfl) (by kernel_rfl) (d := 40) (by kernel_rfl)
end Go.Ev
