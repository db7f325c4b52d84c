/-
  Calls of the whole game, reckoned by the kernel.
-/
import Derived.Test.YtbilegkffooioaaGreatDoorM12
namespace Go.Ev
open Go.Proofs
set_option maxRecDepth 100000
noncomputable def q17 : Pc := ⟨189, [(.slice (some ⟨1228, 0, some 0⟩) 2 2)], 1230,
  [(0, (C 83 true [(I 14), (I 6), (I 8)])),
  (1, (C 83 true [(I 10), (I 9), (I 64)])),
  (2, (C 421 true [(.int .u16 (.ofNat 0)), (.int .u16 (.ofNat 4129)), (.int .u16 (.ofNat 8258)), (.int .u16 (.ofNat 12387)), (.int .u16 (.ofNat 16516)), (.int .u16 (.ofNat 20645)), (.int .u16 (.ofNat 24774)), (.int .u16 (.ofNat 28903)), (.int .u16 (.ofNat 33032)), (.int .u16 (.ofNat 37161)), (.int .u16 (.ofNat 41290)), (.int .u16 (.ofNat 45419)), (.int .u16 (.ofNat 49548)), (.int .u16 (.ofNat 53677)), (.int .u16 (.ofNat 57806)), (.int .u16 (.ofNat 61935))])),
  (1228, (C 146 false [(I 2), (.int .u16 (.ofNat 0)), (.int .u16 (.ofNat 1)), (Y 0), (.int .i8 (.ofNat 127)), (.int .i8 (.ofNat 0)), (I 3), (.int .u16 (.ofNat 0)), (I 0), (I 0), (I 0), (I 0), (I 0), (I 0), (I 0), (I 0), (I 0), (I 0), (I 0), (I 0), (.int .u32 (.ofNat 0)), (.int .u32 (.ofNat 0)), (.slice none 0 0), (I 9), (.int .u16 (.ofNat 0)), (.int .u16 (.ofNat 0)), (Y 0), (.int .i8 (.ofNat 0)), (.int .i8 (.ofNat 0)), (I 0), (.int .u16 (.ofNat 0)), (I 0), (I 0), (I 0), (I 0), (I 0), (I 0), (I 0), (I 0), (I 0), (I 0), (I 0), (I 0), (.int .u32 (.ofNat 1)), (.int .u32 (.ofNat 0)), (.slice none 0 0)]))],
  (.tuple #[(.slice (some ⟨1308, 0, some 0⟩) 16 16), (I 0)]), 1309,
  [(1308, (C 5 false [(Y 17), (Y 0), (Y 0), (Y 143), (Y 224), (Y 10), (Y 64), (Y 0), (Y 0), (Y 0), (Y 64), (Y 0), (Y 0), (Y 0), (Y 0), (Y 0)]))]⟩
theorem q17_right : q17.Right Tryz.prog 3 :=
  piece (tb := []) (fun _ h => nomatch h) q17 (fn := Tryz.f189) Tryz.func189 (low (by kernel_rfl)) (by kernel_rfl) (by kernel_rfl) (d := 40) (by kernel_rfl)

noncomputable def q18 : Pc := ⟨129, [(.agg #[(.int .u16 (.ofNat 1)), (.bool true), (.int .u16 (.ofNat 0)), (.int .u32 (.ofNat 0)), (.slice (some ⟨1228, 0, some 0⟩) 2 2)])], 1229,
  [(0, (C 83 true [(I 14), (I 6), (I 8)])),
  (1, (C 83 true [(I 10), (I 9), (I 64)])),
  (2, (C 421 true [(.int .u16 (.ofNat 0)), (.int .u16 (.ofNat 4129)), (.int .u16 (.ofNat 8258)), (.int .u16 (.ofNat 12387)), (.int .u16 (.ofNat 16516)), (.int .u16 (.ofNat 20645)), (.int .u16 (.ofNat 24774)), (.int .u16 (.ofNat 28903)), (.int .u16 (.ofNat 33032)), (.int .u16 (.ofNat 37161)), (.int .u16 (.ofNat 41290)), (.int .u16 (.ofNat 45419)), (.int .u16 (.ofNat 49548)), (.int .u16 (.ofNat 53677)), (.int .u16 (.ofNat 57806)), (.int .u16 (.ofNat 61935))])),
  (1228, (C 146 false [(I 2), (.int .u16 (.ofNat 0)), (.int .u16 (.ofNat 1)), (Y 0), (.int .i8 (.ofNat 127)), (.int .i8 (.ofNat 0)), (I 3), (.int .u16 (.ofNat 0)), (I 0), (I 0), (I 0), (I 0), (I 0), (I 0), (I 0), (I 0), (I 0), (I 0), (I 0), (I 0), (.int .u32 (.ofNat 0)), (.int .u32 (.ofNat 0)), (.slice none 0 0), (I 9), (.int .u16 (.ofNat 0)), (.int .u16 (.ofNat 0)), (Y 0), (.int .i8 (.ofNat 0)), (.int .i8 (.ofNat 0)), (I 0), (.int .u16 (.ofNat 0)), (I 0), (I 0), (I 0), (I 0), (I 0), (I 0), (I 0), (I 0), (I 0), (I 0), (I 0), (I 0), (.int .u32 (.ofNat 1)), (.int .u32 (.ofNat 0)), (.slice none 0 0)]))],
  (.tuple #[(.slice (some ⟨1331, 0, some 0⟩) 27 27), (I 0)]), 1332,
  [(1331, (C 5 false [(Y 0), (Y 1), (Y 1), (Y 0), (Y 0), (Y 0), (Y 0), (Y 0), (Y 0), (Y 17), (Y 0), (Y 0), (Y 143), (Y 224), (Y 10), (Y 64), (Y 0), (Y 0), (Y 0), (Y 64), (Y 0), (Y 0), (Y 0), (Y 0), (Y 0), (Y 40), (Y 99)]))]⟩
theorem q18_right : q18.Right Tryz.prog 3 :=
  piece (tb := [q17]) (List.forall_mem_cons.2 ⟨q17_right, fun _ h => nomatch h⟩) q18 (fn := Tryz.f129) Tryz.func129 (low (by kernel_rfl)) (by kernel_rfl) (by kernel_rfl) (d := 40) (by kernel_rfl)

noncomputable def q19 : Pc := ⟨189, [(.slice (some ⟨1334, 0, some 0⟩) 3 3)], 1336,
  [(0, (C 83 true [(I 14), (I 6), (I 8)])),
  (1, (C 83 true [(I 10), (I 9), (I 64)])),
  (2, (C 421 true [(.int .u16 (.ofNat 0)), (.int .u16 (.ofNat 4129)), (.int .u16 (.ofNat 8258)), (.int .u16 (.ofNat 12387)), (.int .u16 (.ofNat 16516)), (.int .u16 (.ofNat 20645)), (.int .u16 (.ofNat 24774)), (.int .u16 (.ofNat 28903)), (.int .u16 (.ofNat 33032)), (.int .u16 (.ofNat 37161)), (.int .u16 (.ofNat 41290)), (.int .u16 (.ofNat 45419)), (.int .u16 (.ofNat 49548)), (.int .u16 (.ofNat 53677)), (.int .u16 (.ofNat 57806)), (.int .u16 (.ofNat 61935))])),
  (1334, (C 146 false [(I 2), (.int .u16 (.ofNat 0)), (.int .u16 (.ofNat 1)), (Y 0), (.int .i8 (.ofNat 127)), (.int .i8 (.ofNat 0)), (I 3), (.int .u16 (.ofNat 0)), (I 0), (I 0), (I 0), (I 0), (I 0), (I 0), (I 0), (I 0), (I 0), (I 0), (I 0), (I 0), (.int .u32 (.ofNat 0)), (.int .u32 (.ofNat 0)), (.slice none 0 0), (I 9), (.int .u16 (.ofNat 0)), (.int .u16 (.ofNat 0)), (Y 0), (.int .i8 (.ofNat 0)), (.int .i8 (.ofNat 0)), (I 0), (.int .u16 (.ofNat 0)), (I 0), (I 0), (I 0), (I 0), (I 0), (I 0), (I 0), (I 0), (I 0), (I 0), (I 0), (I 0), (.int .u32 (.ofNat 1)), (.int .u32 (.ofNat 0)), (.slice none 0 0), (I 3), (.int .u16 (.ofNat 0)), (.int .u16 (.ofNat 0)), (Y 0), (.int .i8 (.ofNat 0)), (.int .i8 (.ofNat 0)), (I 0), (.int .u16 (.ofNat 1)), (I 0), (I 1), (I 0), (I 0), (I 65536), (I 0), (I 0), (I 0), (I 0), (I 0), (I 0), (I 0), (.int .u32 (.ofNat 0)), (.int .u32 (.ofNat 0)), (.slice none 0 0)]))],
  (.tuple #[(.slice (some ⟨1447, 0, some 0⟩) 25 25), (I 0)]), 1448,
  [(1447, (C 5 false [(Y 25), (Y 0), (Y 0), (Y 143), (Y 224), (Y 10), (Y 64), (Y 0), (Y 0), (Y 0), (Y 64), (Y 0), (Y 0), (Y 0), (Y 0), (Y 3), (Y 0), (Y 1), (Y 128), (Y 0), (Y 0), (Y 0), (Y 2), (Y 0), (Y 0)]))]⟩
theorem q19_right : q19.Right Tryz.prog 3 :=
  piece (tb := []) (fun _ h => nomatch h) q19 (fn := Tryz.f189) Tryz.func189 (low (by kernel_rfl)) (by kernel_rfl) (by kernel_rfl) (d := 40) (by kernel_rfl)

noncomputable def q20 : Pc := ⟨129, [(.agg #[(.int .u16 (.ofNat 1)), (.bool true), (.int .u16 (.ofNat 0)), (.int .u32 (.ofNat 0)), (.slice (some ⟨1334, 0, some 0⟩) 3 3)])], 1335,
  [(0, (C 83 true [(I 14), (I 6), (I 8)])),
  (1, (C 83 true [(I 10), (I 9), (I 64)])),
  (2, (C 421 true [(.int .u16 (.ofNat 0)), (.int .u16 (.ofNat 4129)), (.int .u16 (.ofNat 8258)), (.int .u16 (.ofNat 12387)), (.int .u16 (.ofNat 16516)), (.int .u16 (.ofNat 20645)), (.int .u16 (.ofNat 24774)), (.int .u16 (.ofNat 28903)), (.int .u16 (.ofNat 33032)), (.int .u16 (.ofNat 37161)), (.int .u16 (.ofNat 41290)), (.int .u16 (.ofNat 45419)), (.int .u16 (.ofNat 49548)), (.int .u16 (.ofNat 53677)), (.int .u16 (.ofNat 57806)), (.int .u16 (.ofNat 61935))])),
  (1334, (C 146 false [(I 2), (.int .u16 (.ofNat 0)), (.int .u16 (.ofNat 1)), (Y 0), (.int .i8 (.ofNat 127)), (.int .i8 (.ofNat 0)), (I 3), (.int .u16 (.ofNat 0)), (I 0), (I 0), (I 0), (I 0), (I 0), (I 0), (I 0), (I 0), (I 0), (I 0), (I 0), (I 0), (.int .u32 (.ofNat 0)), (.int .u32 (.ofNat 0)), (.slice none 0 0), (I 9), (.int .u16 (.ofNat 0)), (.int .u16 (.ofNat 0)), (Y 0), (.int .i8 (.ofNat 0)), (.int .i8 (.ofNat 0)), (I 0), (.int .u16 (.ofNat 0)), (I 0), (I 0), (I 0), (I 0), (I 0), (I 0), (I 0), (I 0), (I 0), (I 0), (I 0), (I 0), (.int .u32 (.ofNat 1)), (.int .u32 (.ofNat 0)), (.slice none 0 0), (I 3), (.int .u16 (.ofNat 0)), (.int .u16 (.ofNat 0)), (Y 0), (.int .i8 (.ofNat 0)), (.int .i8 (.ofNat 0)), (I 0), (.int .u16 (.ofNat 1)), (I 0), (I 1), (I 0), (I 0), (I 65536), (I 0), (I 0), (I 0), (I 0), (I 0), (I 0), (I 0), (.int .u32 (.ofNat 0)), (.int .u32 (.ofNat 0)), (.slice none 0 0)]))],
  (.tuple #[(.slice (some ⟨1470, 0, some 0⟩) 36 36), (I 0)]), 1471,
  [(1470, (C 5 false [(Y 0), (Y 1), (Y 1), (Y 0), (Y 0), (Y 0), (Y 0), (Y 0), (Y 0), (Y 25), (Y 0), (Y 0), (Y 143), (Y 224), (Y 10), (Y 64), (Y 0), (Y 0), (Y 0), (Y 64), (Y 0), (Y 0), (Y 0), (Y 0), (Y 3), (Y 0), (Y 1), (Y 128), (Y 0), (Y 0), (Y 0), (Y 2), (Y 0), (Y 0), (Y 245), (Y 169)]))]⟩
theorem q20_right : q20.Right Tryz.prog 3 :=
  piece (tb := [q19]) (List.forall_mem_cons.2 ⟨q19_right, fun _ h => nomatch h⟩) q20 (fn := Tryz.f129) Tryz.func129 (low (by kernel_rfl)) (by kernel_rfl) (by kernel_rfl) (d := 40) (by kernel_rfl)

noncomputable def q21 : Pc := ⟨15, [(.pointer (some ⟨145, 0, none⟩))], 1206,
  [(0, (C 83 true [(I 14), (I 6), (I 8)])),
  (1, (C 83 true [(I 10), (I 9), (I 64)])),
  (2, (C 421 true [(.int .u16 (.ofNat 0)), (.int .u16 (.ofNat 4129)), (.int .u16 (.ofNat 8258)), (.int .u16 (.ofNat 12387)), (.int .u16 (.ofNat 16516)), (.int .u16 (.ofNat 20645)), (.int .u16 (.ofNat 24774)), (.int .u16 (.ofNat 28903)), (.int .u16 (.ofNat 33032)), (.int .u16 (.ofNat 37161)), (.int .u16 (.ofNat 41290)), (.int .u16 (.ofNat 45419)), (.int .u16 (.ofNat 49548)), (.int .u16 (.ofNat 53677)), (.int .u16 (.ofNat 57806)), (.int .u16 (.ofNat 61935))])),
  (132, (C 4 false [(.bool true), (.bool true), (.bool true), (.bool true), (.bool true), (.bool true), (.bool true), (.bool true), (.bool true), (.bool true), (.bool true), (.bool true), (.bool true), (.bool true), (.bool true), (.bool true), (.bool true), (.bool true), (.bool true), (.bool true), (.bool true), (.bool true), (.bool true), (.bool true), (.bool true), (.bool true), (.bool true), (.bool true), (.bool true), (.bool true), (.bool true), (.bool true), (.bool true), (.bool true), (.bool true), (.bool true), (.bool false), (.bool false), (.bool false), (.bool false), (.bool false), (.bool false), (.bool false), (.bool false), (.bool false), (.bool false), (.bool false), (.bool false), (.bool false), (.bool false), (.bool false), (.bool false), (.bool false), (.bool false), (.bool false), (.bool false), (.bool false), (.bool false), (.bool false), (.bool false), (.bool false), (.bool false), (.bool false), (.bool false), (.bool false), (.bool false), (.bool false), (.bool false), (.bool false), (.bool false), (.bool false), (.bool false), (.bool false), (.bool false), (.bool false), (.bool false), (.bool false), (.bool false), (.bool false), (.bool false), (.bool false), (.bool false), (.bool false), (.bool false), (.bool false), (.bool false), (.bool false), (.bool false), (.bool false), (.bool false), (.bool false), (.bool false), (.bool false), (.bool false), (.bool false), (.bool false), (.bool false), (.bool false), (.bool false), (.bool false), (.bool false), (.bool false), (.bool false), (.bool false), (.bool false), (.bool false), (.bool false), (.bool false), (.bool false), (.bool false), (.bool false), (.bool false), (.bool false), (.bool false), (.bool false), (.bool false), (.bool false), (.bool false), (.bool false), (.bool false), (.bool false), (.bool false), (.bool false), (.bool false), (.bool false), (.bool false), (.bool false), (.bool false), (.bool false), (.bool false), (.bool false), (.bool false), (.bool false), (.bool false), (.bool false), (.bool false), (.bool false), (.bool false), (.bool false), (.bool false), (.bool false), (.bool false), (.bool false), (.bool false), (.bool false), (.bool false), (.bool false), (.bool false), (.bool false), (.bool false), (.bool false), (.bool false), (.bool false), (.bool false), (.bool false), (.bool false), (.bool false), (.bool false), (.bool false), (.bool false), (.bool false), (.bool false), (.bool false), (.bool false), (.bool false), (.bool false), (.bool false), (.bool false), (.bool false), (.bool false), (.bool false), (.bool false), (.bool false), (.bool false), (.bool false), (.bool false), (.bool false), (.bool false), (.bool false), (.bool false), (.bool false), (.bool false), (.bool false), (.bool false), (.bool false), (.bool false), (.bool false), (.bool false), (.bool false), (.bool false), (.bool false), (.bool false), (.bool false), (.bool false), (.bool false), (.bool false), (.bool false), (.bool false), (.bool false), (.bool false), (.bool false), (.bool false), (.bool false), (.bool false), (.bool false), (.bool false), (.bool false), (.bool false), (.bool false), (.bool false), (.bool false), (.bool false), (.bool false), (.bool false), (.bool false), (.bool false)])),
  (134, (C 35 false [(I 196608), (I 196608), (I 196608)])),
  (138, (.obj (.map #[⟨(.int .u16 (.ofNat 1)), (.pointer (some ⟨1204, 0, none⟩)), 0⟩] 1))),
  (139, (.obj (.map #[⟨(.int .u32 (.ofNat 1)), (.agg #[(.slice (some ⟨1131, 0, some 0⟩) 1 1), (.slice none 0 0)]), 0⟩] 1))),
  (143, (C 231 true [(.int .u16 (.ofNat 1)), (.slice (some ⟨157, 0, some 0⟩) 1 1), (.slice (some ⟨244, 0, some 0⟩) 0 1), (.bool true), (.int .u16 (.ofNat 0)), (.int .u32 (.ofNat 0)), (I 0), (.bool true), (.int .u32 (.ofNat 1))])),
  (144, (C 233 true [(.slice (some ⟨1141, 0, some 0⟩) 1 1), (.bool true), (.int .u16 (.ofNat 1))])),
  (145, (C 141 true [(I 6), (I 6), (I 6), (.slice (some ⟨132, 0, some 0⟩) 216 216), (.slice (some ⟨134, 0, some 0⟩) 1 1), (.pointer (some ⟨143, 0, none⟩)), (.pointer (some ⟨144, 0, none⟩)), (.int .u32 (.ofNat 1)), (I 1), (.int .u16 (.ofNat 1)), (.int .u16 (.ofNat 1)), (.map (some 138)), (.int .u32 (.ofNat 1)), (.map (some 139))])),
  (157, (C 234 false [(.pointer (some ⟨1202, 0, none⟩))])),
  (244, (C 245 false [(.int .u16 (.ofNat 0)), (.int .u32 (.ofNat 0)), (.slice none 0 0)])),
  (1131, (C 38 false [(I 1), (I 196608), (I 196608), (I 196608), (I 0), (I 0), (I 0), (.bool false), (I 100), (I 0), (I 0), (I 10), (I 5), (I 0), (I 0)])),
  (1141, (C 144 false [(.int .u16 (.ofNat 1)), (Y 0), (.int .i8 (.ofNat 127)), (.int .i8 (.ofNat 0)), (I 3)])),
  (1202, (C 236 true [(I 3), (.int .u16 (.ofNat 0)), (.int .u16 (.ofNat 0)), (Y 0), (.int .i8 (.ofNat 0)), (.int .i8 (.ofNat 0)), (I 0), (.int .u16 (.ofNat 1)), (I 0), (I 1), (I 0), (I 0), (I 65536), (I 0), (I 0), (I 0), (I 0), (I 0), (I 0), (I 0), (.int .u32 (.ofNat 0)), (.int .u32 (.ofNat 0)), (.slice none 0 0), (.bool false)])),
  (1204, (C 149 true [(I 1), (I 0), (I 0), (.int .u32 (.ofNat 1))]))],
  (.tuple #[(.slice (some ⟨1470, 0, some 0⟩) 36 36), (I 0)]), 1474,
  [(143, (C 231 true [(.int .u16 (.ofNat 2)), (.slice (some ⟨157, 0, some 0⟩) 1 1), (.slice (some ⟨244, 0, some 0⟩) 1 1), (.bool true), (.int .u16 (.ofNat 0)), (.int .u32 (.ofNat 0)), (I 0), (.bool true), (.int .u32 (.ofNat 1))])),
  (145, (C 141 true [(I 6), (I 6), (I 6), (.slice (some ⟨132, 0, some 0⟩) 216 216), (.slice (some ⟨134, 0, some 0⟩) 1 1), (.pointer (some ⟨143, 0, none⟩)), (.pointer (some ⟨144, 0, none⟩)), (.int .u32 (.ofNat 2)), (I 1), (.int .u16 (.ofNat 1)), (.int .u16 (.ofNat 1)), (.map (some 138)), (.int .u32 (.ofNat 1)), (.map (some 139))])),
  (244, (C 245 false [(.int .u16 (.ofNat 1)), (.int .u32 (.ofNat 2)), (.slice (some ⟨1472, 0, some 0⟩) 1 1)])),
  (1470, (C 5 false [(Y 0), (Y 1), (Y 1), (Y 0), (Y 0), (Y 0), (Y 0), (Y 0), (Y 0), (Y 25), (Y 0), (Y 0), (Y 143), (Y 224), (Y 10), (Y 64), (Y 0), (Y 0), (Y 0), (Y 64), (Y 0), (Y 0), (Y 0), (Y 0), (Y 3), (Y 0), (Y 1), (Y 128), (Y 0), (Y 0), (Y 0), (Y 2), (Y 0), (Y 0), (Y 245), (Y 169)])),
  (1472, (C 234 false [(.pointer (some ⟨1202, 0, none⟩))]))]⟩
theorem q21_right : q21.Right Tryz.prog 3 :=
  piece (tb := [q18, q20]) (List.forall_mem_cons.2 ⟨q18_right, List.forall_mem_cons.2 ⟨q20_right, fun _ h => nomatch h⟩⟩) q21 (fn := Tryz.f15) Tryz.func15 (low (by kernel_rfl)) (by kernel_rfl) (by kernel_rfl) (d := 40) (by kernel_rfl)
end Go.Ev
/-
  Calls of the whole game, reckoned by the kernel.
-/
namespace Go.Ev
open Go.Proofs
set_option maxRecDepth 100000
noncomputable def q22 : Pc := ⟨206, [(.slice (some ⟨1475, 9, some 0⟩) 25 27)], 1499,
  [(0, (C 83 true [(I 14), (I 6), (I 8)])),
  (1, (C 83 true [(I 10), (I 9), (I 64)])),
  (2, (C 421 true [(.int .u16 (.ofNat 0)), (.int .u16 (.ofNat 4129)), (.int .u16 (.ofNat 8258)), (.int .u16 (.ofNat 12387)), (.int .u16 (.ofNat 16516)), (.int .u16 (.ofNat 20645)), (.int .u16 (.ofNat 24774)), (.int .u16 (.ofNat 28903)), (.int .u16 (.ofNat 33032)), (.int .u16 (.ofNat 37161)), (.int .u16 (.ofNat 41290)), (.int .u16 (.ofNat 45419)), (.int .u16 (.ofNat 49548)), (.int .u16 (.ofNat 53677)), (.int .u16 (.ofNat 57806)), (.int .u16 (.ofNat 61935))])),
  (1475, (C 5 false [(Y 0), (Y 1), (Y 1), (Y 0), (Y 0), (Y 0), (Y 0), (Y 0), (Y 0), (Y 25), (Y 0), (Y 0), (Y 143), (Y 224), (Y 10), (Y 64), (Y 0), (Y 0), (Y 0), (Y 64), (Y 0), (Y 0), (Y 0), (Y 0), (Y 3), (Y 0), (Y 1), (Y 128), (Y 0), (Y 0), (Y 0), (Y 2), (Y 0), (Y 0), (Y 245), (Y 169)]))],
  (.tuple #[(.slice (some ⟨1530, 0, some 0⟩) 3 3), (I 0)]), 1531,
  [(1530, (C 146 false [(I 2), (.int .u16 (.ofNat 0)), (.int .u16 (.ofNat 1)), (Y 0), (.int .i8 (.ofNat 127)), (.int .i8 (.ofNat 0)), (I 3), (.int .u16 (.ofNat 0)), (I 0), (I 0), (I 0), (I 0), (I 0), (I 0), (I 0), (I 0), (I 0), (I 0), (I 0), (I 0), (.int .u32 (.ofNat 0)), (.int .u32 (.ofNat 0)), (.slice none 0 0), (I 9), (.int .u16 (.ofNat 0)), (.int .u16 (.ofNat 0)), (Y 0), (.int .i8 (.ofNat 0)), (.int .i8 (.ofNat 0)), (I 0), (.int .u16 (.ofNat 0)), (I 0), (I 0), (I 0), (I 0), (I 0), (I 0), (I 0), (I 0), (I 0), (I 0), (I 0), (I 0), (.int .u32 (.ofNat 1)), (.int .u32 (.ofNat 0)), (.slice none 0 0), (I 3), (.int .u16 (.ofNat 0)), (.int .u16 (.ofNat 0)), (Y 0), (.int .i8 (.ofNat 0)), (.int .i8 (.ofNat 0)), (I 0), (.int .u16 (.ofNat 1)), (I 0), (I 1), (I 0), (I 0), (I 65536), (I 0), (I 0), (I 0), (I 0), (I 0), (I 0), (I 0), (.int .u32 (.ofNat 0)), (.int .u32 (.ofNat 0)), (.slice none 0 0)]))]⟩
theorem q22_right : q22.Right Tryz.prog 3 :=
  piece (tb := []) (fun _ h => nomatch h) q22 (fn := Tryz.f206) Tryz.func206 (low (by kernel_rfl)) (by kernel_rfl) (by kernel_rfl) (d := 40) (by kernel_rfl)

noncomputable def q23 : Pc := ⟨142, [(.slice (some ⟨1475, 0, some 0⟩) 36 36)], 1480,
  [(0, (C 83 true [(I 14), (I 6), (I 8)])),
  (1, (C 83 true [(I 10), (I 9), (I 64)])),
  (2, (C 421 true [(.int .u16 (.ofNat 0)), (.int .u16 (.ofNat 4129)), (.int .u16 (.ofNat 8258)), (.int .u16 (.ofNat 12387)), (.int .u16 (.ofNat 16516)), (.int .u16 (.ofNat 20645)), (.int .u16 (.ofNat 24774)), (.int .u16 (.ofNat 28903)), (.int .u16 (.ofNat 33032)), (.int .u16 (.ofNat 37161)), (.int .u16 (.ofNat 41290)), (.int .u16 (.ofNat 45419)), (.int .u16 (.ofNat 49548)), (.int .u16 (.ofNat 53677)), (.int .u16 (.ofNat 57806)), (.int .u16 (.ofNat 61935))])),
  (1475, (C 5 false [(Y 0), (Y 1), (Y 1), (Y 0), (Y 0), (Y 0), (Y 0), (Y 0), (Y 0), (Y 25), (Y 0), (Y 0), (Y 143), (Y 224), (Y 10), (Y 64), (Y 0), (Y 0), (Y 0), (Y 64), (Y 0), (Y 0), (Y 0), (Y 0), (Y 3), (Y 0), (Y 1), (Y 128), (Y 0), (Y 0), (Y 0), (Y 2), (Y 0), (Y 0), (Y 245), (Y 169)]))],
  (.tuple #[(.agg #[(.int .u16 (.ofNat 1)), (.bool true), (.int .u16 (.ofNat 0)), (.int .u32 (.ofNat 0)), (.slice (some ⟨1530, 0, some 0⟩) 3 3)]), (I 0)]), 1531,
  [(1530, (C 146 false [(I 2), (.int .u16 (.ofNat 0)), (.int .u16 (.ofNat 1)), (Y 0), (.int .i8 (.ofNat 127)), (.int .i8 (.ofNat 0)), (I 3), (.int .u16 (.ofNat 0)), (I 0), (I 0), (I 0), (I 0), (I 0), (I 0), (I 0), (I 0), (I 0), (I 0), (I 0), (I 0), (.int .u32 (.ofNat 0)), (.int .u32 (.ofNat 0)), (.slice none 0 0), (I 9), (.int .u16 (.ofNat 0)), (.int .u16 (.ofNat 0)), (Y 0), (.int .i8 (.ofNat 0)), (.int .i8 (.ofNat 0)), (I 0), (.int .u16 (.ofNat 0)), (I 0), (I 0), (I 0), (I 0), (I 0), (I 0), (I 0), (I 0), (I 0), (I 0), (I 0), (I 0), (.int .u32 (.ofNat 1)), (.int .u32 (.ofNat 0)), (.slice none 0 0), (I 3), (.int .u16 (.ofNat 0)), (.int .u16 (.ofNat 0)), (Y 0), (.int .i8 (.ofNat 0)), (.int .i8 (.ofNat 0)), (I 0), (.int .u16 (.ofNat 1)), (I 0), (I 1), (I 0), (I 0), (I 65536), (I 0), (I 0), (I 0), (I 0), (I 0), (I 0), (I 0), (.int .u32 (.ofNat 0)), (.int .u32 (.ofNat 0)), (.slice none 0 0)]))]⟩
theorem q23_right : q23.Right Tryz.prog 3 :=
  piece (tb := [q22]) (List.forall_mem_cons.2 ⟨q22_right, fun _ h => nomatch h⟩) q23 (fn := Tryz.f142) Tryz.func142 (low (by kernel_rfl)) (by kernel_rfl) (by kernel_rfl) (d := 40) (by kernel_rfl)
end Go.Ev
