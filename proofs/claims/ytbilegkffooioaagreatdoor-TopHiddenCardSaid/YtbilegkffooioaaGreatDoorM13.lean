/-
  Calls of the whole game, reckoned by the kernel.
-/
import Derived.Test.YtbilegkffooioaaGreatDoorM12
namespace Go.Ev
open Go.Proofs
set_option maxRecDepth 100000
noncomputable def q0 : Pc := ⟨189, [(.slice none 0 0)], 173,
  [(0, (C 83 true [(I 14), (I 6), (I 8)])),
  (1, (C 83 true [(I 10), (I 9), (I 64)])),
  (2, (C 421 true [(.int .u16 (.ofNat 0)), (.int .u16 (.ofNat 4129)), (.int .u16 (.ofNat 8258)), (.int .u16 (.ofNat 12387)), (.int .u16 (.ofNat 16516)), (.int .u16 (.ofNat 20645)), (.int .u16 (.ofNat 24774)), (.int .u16 (.ofNat 28903)), (.int .u16 (.ofNat 33032)), (.int .u16 (.ofNat 37161)), (.int .u16 (.ofNat 41290)), (.int .u16 (.ofNat 45419)), (.int .u16 (.ofNat 49548)), (.int .u16 (.ofNat 53677)), (.int .u16 (.ofNat 57806)), (.int .u16 (.ofNat 61935))]))],
  (.tuple #[(.slice (some ⟨176, 0, some 0⟩) 1 1), (I 0)]), 177,
  [(176, (C 5 false [(Y 0)]))]⟩
theorem q0_right : q0.Right Tryz.prog 3 :=
  piece (tb := []) (fun _ h => nomatch h) q0 (fn := Tryz.f189) Tryz.func189 (low (by kernel_rfl)) (by kernel_rfl) (by kernel_rfl) (d := 40) (by kernel_rfl)

noncomputable def q1 : Pc := ⟨129, [(.agg #[(.int .u16 (.ofNat 0)), (.bool false), (.int .u16 (.ofNat 0)), (.int .u32 (.ofNat 0)), (.slice none 0 0)])], 172,
  [(0, (C 83 true [(I 14), (I 6), (I 8)])),
  (1, (C 83 true [(I 10), (I 9), (I 64)])),
  (2, (C 421 true [(.int .u16 (.ofNat 0)), (.int .u16 (.ofNat 4129)), (.int .u16 (.ofNat 8258)), (.int .u16 (.ofNat 12387)), (.int .u16 (.ofNat 16516)), (.int .u16 (.ofNat 20645)), (.int .u16 (.ofNat 24774)), (.int .u16 (.ofNat 28903)), (.int .u16 (.ofNat 33032)), (.int .u16 (.ofNat 37161)), (.int .u16 (.ofNat 41290)), (.int .u16 (.ofNat 45419)), (.int .u16 (.ofNat 49548)), (.int .u16 (.ofNat 53677)), (.int .u16 (.ofNat 57806)), (.int .u16 (.ofNat 61935))]))],
  (.tuple #[(.slice (some ⟨199, 0, some 0⟩) 12 12), (I 0)]), 200,
  [(199, (C 5 false [(Y 0), (Y 0), (Y 0), (Y 0), (Y 0), (Y 0), (Y 0), (Y 0), (Y 0), (Y 0), (Y 225), (Y 57)]))]⟩
theorem q1_right : q1.Right Tryz.prog 3 :=
  piece (tb := [q0]) (List.forall_mem_cons.2 ⟨q0_right, fun _ h => nomatch h⟩) q1 (fn := Tryz.f129) Tryz.func129 (low (by kernel_rfl)) (by kernel_rfl) (by kernel_rfl) (d := 40) (by kernel_rfl)

noncomputable def q2 : Pc := ⟨189, [(.slice (some ⟨202, 0, some 0⟩) 1 1)], 204,
  [(0, (C 83 true [(I 14), (I 6), (I 8)])),
  (1, (C 83 true [(I 10), (I 9), (I 64)])),
  (2, (C 421 true [(.int .u16 (.ofNat 0)), (.int .u16 (.ofNat 4129)), (.int .u16 (.ofNat 8258)), (.int .u16 (.ofNat 12387)), (.int .u16 (.ofNat 16516)), (.int .u16 (.ofNat 20645)), (.int .u16 (.ofNat 24774)), (.int .u16 (.ofNat 28903)), (.int .u16 (.ofNat 33032)), (.int .u16 (.ofNat 37161)), (.int .u16 (.ofNat 41290)), (.int .u16 (.ofNat 45419)), (.int .u16 (.ofNat 49548)), (.int .u16 (.ofNat 53677)), (.int .u16 (.ofNat 57806)), (.int .u16 (.ofNat 61935))])),
  (202, (C 146 false [(I 1), (.int .u16 (.ofNat 0)), (.int .u16 (.ofNat 0)), (Y 0), (.int .i8 (.ofNat 0)), (.int .i8 (.ofNat 0)), (I 0), (.int .u16 (.ofNat 0)), (I 0), (I 0), (I 0), (I 0), (I 0), (I 0), (I 0), (I 0), (I 0), (I 0), (I 0), (I 0), (.int .u32 (.ofNat 0)), (.int .u32 (.ofNat 0)), (.slice none 0 0)]))],
  (.tuple #[(.slice (some ⟨217, 0, some 0⟩) 2 2), (I 0)]), 218,
  [(217, (C 5 false [(Y 8), (Y 128)]))]⟩
theorem q2_right : q2.Right Tryz.prog 3 :=
  piece (tb := []) (fun _ h => nomatch h) q2 (fn := Tryz.f189) Tryz.func189 (low (by kernel_rfl)) (by kernel_rfl) (by kernel_rfl) (d := 40) (by kernel_rfl)

noncomputable def q3 : Pc := ⟨129, [(.agg #[(.int .u16 (.ofNat 0)), (.bool false), (.int .u16 (.ofNat 0)), (.int .u32 (.ofNat 0)), (.slice (some ⟨202, 0, some 0⟩) 1 1)])], 203,
  [(0, (C 83 true [(I 14), (I 6), (I 8)])),
  (1, (C 83 true [(I 10), (I 9), (I 64)])),
  (2, (C 421 true [(.int .u16 (.ofNat 0)), (.int .u16 (.ofNat 4129)), (.int .u16 (.ofNat 8258)), (.int .u16 (.ofNat 12387)), (.int .u16 (.ofNat 16516)), (.int .u16 (.ofNat 20645)), (.int .u16 (.ofNat 24774)), (.int .u16 (.ofNat 28903)), (.int .u16 (.ofNat 33032)), (.int .u16 (.ofNat 37161)), (.int .u16 (.ofNat 41290)), (.int .u16 (.ofNat 45419)), (.int .u16 (.ofNat 49548)), (.int .u16 (.ofNat 53677)), (.int .u16 (.ofNat 57806)), (.int .u16 (.ofNat 61935))])),
  (202, (C 146 false [(I 1), (.int .u16 (.ofNat 0)), (.int .u16 (.ofNat 0)), (Y 0), (.int .i8 (.ofNat 0)), (.int .i8 (.ofNat 0)), (I 0), (.int .u16 (.ofNat 0)), (I 0), (I 0), (I 0), (I 0), (I 0), (I 0), (I 0), (I 0), (I 0), (I 0), (I 0), (I 0), (.int .u32 (.ofNat 0)), (.int .u32 (.ofNat 0)), (.slice none 0 0)]))],
  (.tuple #[(.slice (some ⟨240, 0, some 0⟩) 13 13), (I 0)]), 241,
  [(240, (C 5 false [(Y 0), (Y 0), (Y 0), (Y 0), (Y 0), (Y 0), (Y 0), (Y 0), (Y 0), (Y 8), (Y 128), (Y 204), (Y 46)]))]⟩
theorem q3_right : q3.Right Tryz.prog 3 :=
  piece (tb := [q2]) (List.forall_mem_cons.2 ⟨q2_right, fun _ h => nomatch h⟩) q3 (fn := Tryz.f129) Tryz.func129 (low (by kernel_rfl)) (by kernel_rfl) (by kernel_rfl) (d := 40) (by kernel_rfl)

noncomputable def q4 : Pc := ⟨15, [(.pointer (some ⟨145, 0, none⟩))], 158,
  [(0, (C 83 true [(I 14), (I 6), (I 8)])),
  (1, (C 83 true [(I 10), (I 9), (I 64)])),
  (2, (C 421 true [(.int .u16 (.ofNat 0)), (.int .u16 (.ofNat 4129)), (.int .u16 (.ofNat 8258)), (.int .u16 (.ofNat 12387)), (.int .u16 (.ofNat 16516)), (.int .u16 (.ofNat 20645)), (.int .u16 (.ofNat 24774)), (.int .u16 (.ofNat 28903)), (.int .u16 (.ofNat 33032)), (.int .u16 (.ofNat 37161)), (.int .u16 (.ofNat 41290)), (.int .u16 (.ofNat 45419)), (.int .u16 (.ofNat 49548)), (.int .u16 (.ofNat 53677)), (.int .u16 (.ofNat 57806)), (.int .u16 (.ofNat 61935))])),
  (132, (C 4 false [(.bool true), (.bool true), (.bool true), (.bool true), (.bool true), (.bool true), (.bool true), (.bool true), (.bool true), (.bool true), (.bool true), (.bool true), (.bool true), (.bool true), (.bool true), (.bool true), (.bool true), (.bool true), (.bool true), (.bool true), (.bool true), (.bool true), (.bool true), (.bool true), (.bool true), (.bool true), (.bool true), (.bool true), (.bool true), (.bool true), (.bool true), (.bool true), (.bool true), (.bool true), (.bool true), (.bool true), (.bool false), (.bool false), (.bool false), (.bool false), (.bool false), (.bool false), (.bool false), (.bool false), (.bool false), (.bool false), (.bool false), (.bool false), (.bool false), (.bool false), (.bool false), (.bool false), (.bool false), (.bool false), (.bool false), (.bool false), (.bool false), (.bool false), (.bool false), (.bool false), (.bool false), (.bool false), (.bool false), (.bool false), (.bool false), (.bool false), (.bool false), (.bool false), (.bool false), (.bool false), (.bool false), (.bool false), (.bool false), (.bool false), (.bool false), (.bool false), (.bool false), (.bool false), (.bool false), (.bool false), (.bool false), (.bool false), (.bool false), (.bool false), (.bool false), (.bool false), (.bool false), (.bool false), (.bool false), (.bool false), (.bool false), (.bool false), (.bool false), (.bool false), (.bool false), (.bool false), (.bool false), (.bool false), (.bool false), (.bool false), (.bool false), (.bool false), (.bool false), (.bool false), (.bool false), (.bool false), (.bool false), (.bool false), (.bool false), (.bool false), (.bool false), (.bool false), (.bool false), (.bool false), (.bool false), (.bool false), (.bool false), (.bool false), (.bool false), (.bool false), (.bool false), (.bool false), (.bool false), (.bool false), (.bool false), (.bool false), (.bool false), (.bool false), (.bool false), (.bool false), (.bool false), (.bool false), (.bool false), (.bool false), (.bool false), (.bool false), (.bool false), (.bool false), (.bool false), (.bool false), (.bool false), (.bool false), (.bool false), (.bool false), (.bool false), (.bool false), (.bool false), (.bool false), (.bool false), (.bool false), (.bool false), (.bool false), (.bool false), (.bool false), (.bool false), (.bool false), (.bool false), (.bool false), (.bool false), (.bool false), (.bool false), (.bool false), (.bool false), (.bool false), (.bool false), (.bool false), (.bool false), (.bool false), (.bool false), (.bool false), (.bool false), (.bool false), (.bool false), (.bool false), (.bool false), (.bool false), (.bool false), (.bool false), (.bool false), (.bool false), (.bool false), (.bool false), (.bool false), (.bool false), (.bool false), (.bool false), (.bool false), (.bool false), (.bool false), (.bool false), (.bool false), (.bool false), (.bool false), (.bool false), (.bool false), (.bool false), (.bool false), (.bool false), (.bool false), (.bool false), (.bool false), (.bool false), (.bool false), (.bool false), (.bool false), (.bool false), (.bool false), (.bool false), (.bool false), (.bool false), (.bool false), (.bool false), (.bool false), (.bool false), (.bool false), (.bool false)])),
  (134, (C 35 false [(I 196608), (I 196608), (I 196608)])),
  (138, (.obj (.map #[] 0))),
  (139, (.obj (.map #[] 0))),
  (143, (C 231 true [(.int .u16 (.ofNat 0)), (.slice (some ⟨157, 0, some 0⟩) 1 1), (.slice none 0 0), (.bool false), (.int .u16 (.ofNat 0)), (.int .u32 (.ofNat 0)), (I 0), (.bool false), (.int .u32 (.ofNat 0))])),
  (144, (C 233 true [(.slice none 0 0), (.bool false), (.int .u16 (.ofNat 0))])),
  (145, (C 141 true [(I 6), (I 6), (I 6), (.slice (some ⟨132, 0, some 0⟩) 216 216), (.slice (some ⟨134, 0, some 0⟩) 1 1), (.pointer (some ⟨143, 0, none⟩)), (.pointer (some ⟨144, 0, none⟩)), (.int .u32 (.ofNat 0)), (I 0), (.int .u16 (.ofNat 0)), (.int .u16 (.ofNat 0)), (.map (some 138)), (.int .u32 (.ofNat 0)), (.map (some 139))])),
  (155, (C 236 true [(I 1), (.int .u16 (.ofNat 0)), (.int .u16 (.ofNat 0)), (Y 0), (.int .i8 (.ofNat 0)), (.int .i8 (.ofNat 0)), (I 0), (.int .u16 (.ofNat 0)), (I 0), (I 0), (I 0), (I 0), (I 0), (I 0), (I 0), (I 0), (I 0), (I 0), (I 0), (I 0), (.int .u32 (.ofNat 0)), (.int .u32 (.ofNat 0)), (.slice none 0 0), (.bool false)])),
  (157, (C 234 false [(.pointer (some ⟨155, 0, none⟩))]))],
  (.tuple #[(.slice (some ⟨240, 0, some 0⟩) 13 13), (I 0)]), 245,
  [(143, (C 231 true [(.int .u16 (.ofNat 1)), (.slice (some ⟨157, 0, some 0⟩) 1 1), (.slice (some ⟨244, 0, some 0⟩) 1 1), (.bool false), (.int .u16 (.ofNat 0)), (.int .u32 (.ofNat 0)), (I 0), (.bool false), (.int .u32 (.ofNat 0))])),
  (145, (C 141 true [(I 6), (I 6), (I 6), (.slice (some ⟨132, 0, some 0⟩) 216 216), (.slice (some ⟨134, 0, some 0⟩) 1 1), (.pointer (some ⟨143, 0, none⟩)), (.pointer (some ⟨144, 0, none⟩)), (.int .u32 (.ofNat 1)), (I 0), (.int .u16 (.ofNat 0)), (.int .u16 (.ofNat 0)), (.map (some 138)), (.int .u32 (.ofNat 0)), (.map (some 139))])),
  (240, (C 5 false [(Y 0), (Y 0), (Y 0), (Y 0), (Y 0), (Y 0), (Y 0), (Y 0), (Y 0), (Y 8), (Y 128), (Y 204), (Y 46)])),
  (242, (C 234 false [(.pointer (some ⟨155, 0, none⟩))])),
  (244, (C 245 false [(.int .u16 (.ofNat 0)), (.int .u32 (.ofNat 1)), (.slice (some ⟨242, 0, some 0⟩) 1 1)]))]⟩
theorem q4_right : q4.Right Tryz.prog 3 :=
  piece (tb := [q1, q3]) (List.forall_mem_cons.2 ⟨q1_right, List.forall_mem_cons.2 ⟨q3_right, fun _ h => nomatch h⟩⟩) q4 (fn := Tryz.f15) Tryz.func15 (low (by kernel_rfl)) (by kernel_rfl) (by kernel_rfl) (d := 40) (by kernel_rfl)
end Go.Ev
/-
  Calls of the whole game, reckoned by the kernel.
-/
namespace Go.Ev
open Go.Proofs
set_option maxRecDepth 100000
noncomputable def q5 : Pc := ⟨206, [(.slice (some ⟨263, 9, some 0⟩) 2 4)], 287,
  [(0, (C 83 true [(I 14), (I 6), (I 8)])),
  (1, (C 83 true [(I 10), (I 9), (I 64)])),
  (2, (C 421 true [(.int .u16 (.ofNat 0)), (.int .u16 (.ofNat 4129)), (.int .u16 (.ofNat 8258)), (.int .u16 (.ofNat 12387)), (.int .u16 (.ofNat 16516)), (.int .u16 (.ofNat 20645)), (.int .u16 (.ofNat 24774)), (.int .u16 (.ofNat 28903)), (.int .u16 (.ofNat 33032)), (.int .u16 (.ofNat 37161)), (.int .u16 (.ofNat 41290)), (.int .u16 (.ofNat 45419)), (.int .u16 (.ofNat 49548)), (.int .u16 (.ofNat 53677)), (.int .u16 (.ofNat 57806)), (.int .u16 (.ofNat 61935))])),
  (263, (C 5 false [(Y 0), (Y 0), (Y 0), (Y 0), (Y 0), (Y 0), (Y 0), (Y 0), (Y 0), (Y 8), (Y 128), (Y 204), (Y 46)]))],
  (.tuple #[(.slice (some ⟨296, 0, some 0⟩) 1 1), (I 0)]), 297,
  [(296, (C 146 false [(I 1), (.int .u16 (.ofNat 0)), (.int .u16 (.ofNat 0)), (Y 0), (.int .i8 (.ofNat 0)), (.int .i8 (.ofNat 0)), (I 0), (.int .u16 (.ofNat 0)), (I 0), (I 0), (I 0), (I 0), (I 0), (I 0), (I 0), (I 0), (I 0), (I 0), (I 0), (I 0), (.int .u32 (.ofNat 0)), (.int .u32 (.ofNat 0)), (.slice none 0 0)]))]⟩
theorem q5_right : q5.Right Tryz.prog 3 :=
  piece (tb := []) (fun _ h => nomatch h) q5 (fn := Tryz.f206) Tryz.func206 (low (by kernel_rfl)) (by kernel_rfl) (by kernel_rfl) (d := 40) (by kernel_rfl)

noncomputable def q6 : Pc := ⟨142, [(.slice (some ⟨263, 0, some 0⟩) 13 13)], 268,
  [(0, (C 83 true [(I 14), (I 6), (I 8)])),
  (1, (C 83 true [(I 10), (I 9), (I 64)])),
  (2, (C 421 true [(.int .u16 (.ofNat 0)), (.int .u16 (.ofNat 4129)), (.int .u16 (.ofNat 8258)), (.int .u16 (.ofNat 12387)), (.int .u16 (.ofNat 16516)), (.int .u16 (.ofNat 20645)), (.int .u16 (.ofNat 24774)), (.int .u16 (.ofNat 28903)), (.int .u16 (.ofNat 33032)), (.int .u16 (.ofNat 37161)), (.int .u16 (.ofNat 41290)), (.int .u16 (.ofNat 45419)), (.int .u16 (.ofNat 49548)), (.int .u16 (.ofNat 53677)), (.int .u16 (.ofNat 57806)), (.int .u16 (.ofNat 61935))])),
  (263, (C 5 false [(Y 0), (Y 0), (Y 0), (Y 0), (Y 0), (Y 0), (Y 0), (Y 0), (Y 0), (Y 8), (Y 128), (Y 204), (Y 46)]))],
  (.tuple #[(.agg #[(.int .u16 (.ofNat 0)), (.bool false), (.int .u16 (.ofNat 0)), (.int .u32 (.ofNat 0)), (.slice (some ⟨296, 0, some 0⟩) 1 1)]), (I 0)]), 297,
  [(296, (C 146 false [(I 1), (.int .u16 (.ofNat 0)), (.int .u16 (.ofNat 0)), (Y 0), (.int .i8 (.ofNat 0)), (.int .i8 (.ofNat 0)), (I 0), (.int .u16 (.ofNat 0)), (I 0), (I 0), (I 0), (I 0), (I 0), (I 0), (I 0), (I 0), (I 0), (I 0), (I 0), (I 0), (.int .u32 (.ofNat 0)), (.int .u32 (.ofNat 0)), (.slice none 0 0)]))]⟩
theorem q6_right : q6.Right Tryz.prog 3 :=
  piece (tb := [q5]) (List.forall_mem_cons.2 ⟨q5_right, fun _ h => nomatch h⟩) q6 (fn := Tryz.f142) Tryz.func142 (low (by kernel_rfl)) (by kernel_rfl) (by kernel_rfl) (d := 40) (by kernel_rfl)
end Go.Ev
