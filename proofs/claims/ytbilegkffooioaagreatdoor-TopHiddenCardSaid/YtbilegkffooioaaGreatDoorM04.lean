/-
  DERIVED: THE SHELF's CONTRACTS AT THIS DUMP, IN PLAIN WORDS (tools/lay-plain.mjs out of 'YtbilegkffooioaaGreatDoorLay0.lean', which tools/lay-shelf.mjs wrote): THE SAME DECLARATIONS UNDER THE SAME NAMES: 'import', 'namespace', 'open', 'def', 'theorem' AND NOTHING ELSE: no command of the shelf's: FOR A HAND-IN. Each laying: the table of numbers ('.._ren') and one theorem, a field a fact of the dump's own or the kernel's comparison; each contract: ONE APPLICATION.
-/
import Derived.Shelf.SlGeneric
import Derived.Shelf.SlSortCmp.WholeK
import Derived.Shelf.SlicesQ.IndexFunc
import Derived.Shelf.SlicesE.IndexFunc
import Derived.Shelf.SlicesG.Cmp
import Derived.Shelf.SlicesG.Equal
import Derived.Shelf.SlicesG.Clone
import Derived.Shelf.Slices.CompactI
import Derived.Shelf.Sort.Plain
import Derived.Ground.SlsfProg
import Derived.Ground.SlgfProg
import Derived.Ground.SlgcProg
import Derived.Ground.SlgnProg
import Derived.Ground.NamesProg
import Derived.Ground.Names2Prog
import Derived.Test.YtbilegkffooioaaGreatDoorProg
import Derived.Test.YtbilegkffooioaaGreatDoorM03
import Derived.Deep.RegionHeld3
import Derived.Test.YtbilegkffooioaaGreatDoorM01
import Derived.Laws.Bits64b
import Derived.Lib.Mul64
import Derived.IntWalk
import Derived.Laws.Externs
import Derived.Shelf.Spec.BitsCarry
import Derived.Deep.OwnRows
import Derived.Deep.RegionWith
import Derived.Shelf.SlSortCmp.KitK
import Derived.Sort.WalkB2
import Derived.Sort.WalkB12
import Derived.Deep.LoopGhost
namespace Go.Proofs
open Go.Shelf
def Tryz.sortSeen_ren : Go.Shelf.Ren := ⟨fun | 6 => 43 | 15 => 97 | 14 => 96 | 28 => 173 | 29 => 174 | 20 => 164 | 21 => 166 | 22 => 167 | 23 => 168 | 24 => 169 | 25 => 170 | 26 => 171 | 27 => 172 | 46 => 229 | 47 => 230 | 48 => 231 | 49 => 232 | 50 => 233 | 57 => 268 | n => n, fun | 22 => 95 | 24 => 97 | 25 => 105 | 3 => 3 | 39 => 195 | 0 => 0 | 53 => 139 | 55 => 182 | 4 => 4 | 46 => 300 | 45 => 299 | 50 => 212 | 5 => 5 | 9 => 9 | 66 => 377 | 70 => 354 | 76 => 414 | 77 => 415 | n => n, fun | n => n⟩
theorem Tryz.sortSeen : Go.Proofs.SlLaysF0.n6 Tryz.prog Tryz.sortSeen_ren := {
  mixed := by kernel_rfl
  f6 := ⟨Tryz.f43.name, by decide, Tryz.func43.trans (congrArg some (by kernel_rfl))⟩
  f14 := ⟨Tryz.f96.name, by decide, Tryz.func96.trans (congrArg some (by kernel_rfl))⟩
  f15 := Tryz.func97.trans (congrArg some (by kernel_rfl))
  f20 := ⟨Tryz.f164.name, by decide, Tryz.func164.trans (congrArg some (by kernel_rfl))⟩
  f21 := ⟨Tryz.f166.name, by decide, Tryz.func166.trans (congrArg some (by kernel_rfl))⟩
  f22 := ⟨Tryz.f167.name, by decide, Tryz.func167.trans (congrArg some (by kernel_rfl))⟩
  f23 := ⟨Tryz.f168.name, by decide, Tryz.func168.trans (congrArg some (by kernel_rfl))⟩
  f24 := ⟨Tryz.f169.name, by decide, Tryz.func169.trans (congrArg some (by kernel_rfl))⟩
  f25 := ⟨Tryz.f170.name, by decide, Tryz.func170.trans (congrArg some (by kernel_rfl))⟩
  f26 := ⟨Tryz.f171.name, by decide, Tryz.func171.trans (congrArg some (by kernel_rfl))⟩
  f27 := ⟨Tryz.f172.name, by decide, Tryz.func172.trans (congrArg some (by kernel_rfl))⟩
  f28 := Tryz.func173.trans (congrArg some (by kernel_rfl))
  f29 := Tryz.func174.trans (congrArg some (by kernel_rfl))
  f46 := ⟨Tryz.f229.name, by decide, Tryz.func229.trans (congrArg some (by kernel_rfl))⟩
  f47 := Tryz.func230.trans (congrArg some (by kernel_rfl))
  f48 := Tryz.func231.trans (congrArg some (by kernel_rfl))
  f49 := ⟨Tryz.f232.name, by decide, Tryz.func232.trans (congrArg some (by kernel_rfl))⟩
  f50 := ⟨Tryz.f233.name, by decide, Tryz.func233.trans (congrArg some (by kernel_rfl))⟩
  f57 := ⟨Tryz.f268.name, by decide, Tryz.func268.trans (congrArg some (by kernel_rfl))⟩
  t0 := Tryz.underlying0
  a0 := Tryz.isAgg0
  z0 := Tryz.sizeOf0
  v0 := Tryz.zeroValue0
  t3 := Tryz.underlying3
  a3 := Tryz.isAgg3
  z3 := Tryz.sizeOf3
  v3 := Tryz.zeroValue3
  t4 := Tryz.underlying4
  a4 := Tryz.isAgg4
  z4 := Tryz.sizeOf4
  v4 := Tryz.zeroValue4
  t5 := Tryz.underlying5
  a5 := Tryz.isAgg5
  z5 := Tryz.sizeOf5
  v5 := Tryz.zeroValue5
  t9 := Tryz.underlying9
  a9 := Tryz.isAgg9
  z9 := Tryz.sizeOf9
  v9 := Tryz.zeroValue9
  t22 := Tryz.underlying95
  a22 := Tryz.isAgg95
  z22 := Tryz.sizeOf95
  v22 := Tryz.zeroValue95
  t25 := Tryz.underlying105
  a25 := Tryz.isAgg105
  z25 := Tryz.sizeOf105
  v25 := Tryz.zeroValue105
  t39 := Tryz.underlying195
  a39 := Tryz.isAgg195
  z39 := Tryz.sizeOf195
  v39 := Tryz.zeroValue195
  t45 := Tryz.underlying299
  a45 := Tryz.isAgg299
  z45 := Tryz.sizeOf299
  v45 := Tryz.zeroValue299
  t46 := Tryz.underlying300
  a46 := Tryz.isAgg300
  z46 := Tryz.sizeOf300
  v46 := Tryz.zeroValue300
  t50 := Tryz.underlying212
  a50 := Tryz.isAgg212
  z50 := Tryz.sizeOf212
  v50 := Tryz.zeroValue212
  t53 := Tryz.underlying139
  a53 := Tryz.isAgg139
  z53 := Tryz.sizeOf139
  v53 := Tryz.zeroValue139
  t55 := Tryz.underlying182
  a55 := Tryz.isAgg182
  z55 := Tryz.sizeOf182
  v55 := Tryz.zeroValue182
  t66 := Tryz.underlying377
  a66 := Tryz.isAgg377
  z66 := Tryz.sizeOf377
  v66 := Tryz.zeroValue377
  t70 := Tryz.underlying354
  a70 := Tryz.isAgg354
  z70 := Tryz.sizeOf354
  v70 := Tryz.zeroValue354
  t76 := Tryz.underlying414
  a76 := Tryz.isAgg414
  z76 := Tryz.sizeOf414
  v76 := Tryz.zeroValue414
  t77 := Tryz.underlying415
  a77 := Tryz.isAgg415
  z77 := Tryz.sizeOf415
  v77 := Tryz.zeroValue415 }
def Tryz.cmpLong_ren : Go.Shelf.Ren := ⟨fun | 5 => 41 | 7 => 94 | n => n, fun | 22 => 2 | 3 => 3 | 4 => 4 | n => n, fun | n => n⟩
theorem Tryz.cmpLong : Go.Proofs.SlLaysC2.n5 Tryz.prog Tryz.cmpLong_ren := {
  mixed := by kernel_rfl
  f5 := ⟨Tryz.f41.name, by decide, Tryz.func41.trans (congrArg some (by kernel_rfl))⟩
  f7 := ⟨Tryz.f94.name, by decide, Tryz.func94.trans (congrArg some (by kernel_rfl))⟩
  t3 := Tryz.underlying3
  a3 := Tryz.isAgg3
  z3 := Tryz.sizeOf3
  v3 := Tryz.zeroValue3
  t4 := Tryz.underlying4
  a4 := Tryz.isAgg4
  z4 := Tryz.sizeOf4
  v4 := Tryz.zeroValue4
  t22 := Tryz.underlying2
  a22 := Tryz.isAgg2
  z22 := Tryz.sizeOf2
  v22 := Tryz.zeroValue2 }
def Tryz.cmpInt_ren : Go.Shelf.Ren := ⟨fun | 5 => 42 | 7 => 95 | n => n, fun | 22 => 3 | 3 => 3 | 4 => 4 | n => n, fun | n => n⟩
theorem Tryz.cmpInt : Go.Proofs.SlLaysC2.n5 Tryz.prog Tryz.cmpInt_ren := {
  mixed := by kernel_rfl
  f5 := ⟨Tryz.f42.name, by decide, Tryz.func42.trans (congrArg some (by kernel_rfl))⟩
  f7 := ⟨Tryz.f95.name, by decide, Tryz.func95.trans (congrArg some (by kernel_rfl))⟩
  t3 := Tryz.underlying3
  a3 := Tryz.isAgg3
  z3 := Tryz.sizeOf3
  v3 := Tryz.zeroValue3
  t4 := Tryz.underlying4
  a4 := Tryz.isAgg4
  z4 := Tryz.sizeOf4
  v4 := Tryz.zeroValue4
  t22 := Tryz.underlying3
  a22 := Tryz.isAgg3
  z22 := Tryz.sizeOf3
  v22 := Tryz.zeroValue3 }
def Tryz.indexPlayer_ren : Go.Shelf.Ren := ⟨fun | 6 => 33 | n => n, fun | 22 => 22 | 23 => 38 | 25 => 94 | 3 => 3 | 0 => 0 | 4 => 4 | n => n, fun | n => n⟩
theorem Tryz.indexPlayer : Go.Proofs.SlLaysH0.n6 Tryz.prog Tryz.indexPlayer_ren := {
  mixed := by kernel_rfl
  f6 := ⟨Tryz.f33.name, by decide, Tryz.func33.trans (congrArg some (by kernel_rfl))⟩
  t0 := Tryz.underlying0
  a0 := Tryz.isAgg0
  z0 := Tryz.sizeOf0
  v0 := Tryz.zeroValue0
  t3 := Tryz.underlying3
  a3 := Tryz.isAgg3
  z3 := Tryz.sizeOf3
  v3 := Tryz.zeroValue3
  t4 := Tryz.underlying4
  a4 := Tryz.isAgg4
  z4 := Tryz.sizeOf4
  v4 := Tryz.zeroValue4
  t22 := Tryz.underlying22
  a22 := Tryz.isAgg22
  z22 := Tryz.sizeOf22
  v22 := Tryz.zeroValue22
  t25 := Tryz.underlying94
  a25 := Tryz.isAgg94
  z25 := Tryz.sizeOf94
  v25 := Tryz.zeroValue94 }
def Tryz.indexRow_ren : Go.Shelf.Ren := ⟨fun | 6 => 176 | n => n, fun | 22 => 85 | 23 => 89 | 25 => 209 | 3 => 3 | 0 => 0 | 4 => 4 | n => n, fun | n => n⟩
theorem Tryz.indexRow : Go.Proofs.SlLaysH0.n6 Tryz.prog Tryz.indexRow_ren := {
  mixed := by kernel_rfl
  f6 := ⟨Tryz.f176.name, by decide, Tryz.func176.trans (congrArg some (by kernel_rfl))⟩
  t0 := Tryz.underlying0
  a0 := Tryz.isAgg0
  z0 := Tryz.sizeOf0
  v0 := Tryz.zeroValue0
  t3 := Tryz.underlying3
  a3 := Tryz.isAgg3
  z3 := Tryz.sizeOf3
  v3 := Tryz.zeroValue3
  t4 := Tryz.underlying4
  a4 := Tryz.isAgg4
  z4 := Tryz.sizeOf4
  v4 := Tryz.zeroValue4
  t22 := Tryz.underlying85
  a22 := Tryz.isAgg85
  z22 := Tryz.sizeOf85
  v22 := Tryz.zeroValue85
  t25 := Tryz.underlying209
  a25 := Tryz.isAgg209
  z25 := Tryz.sizeOf209
  v25 := Tryz.zeroValue209 }
def Tryz.containsLong_ren : Go.Shelf.Ren := ⟨fun | 8 => 86 | 6 => 158 | n => n, fun | 22 => 87 | 23 => 2 | 25 => 179 | 4 => 4 | 3 => 3 | 0 => 0 | n => n, fun | n => n⟩
theorem Tryz.containsLong : Go.Proofs.SlLaysH.n8 Tryz.prog Tryz.containsLong_ren := {
  mixed := by kernel_rfl
  f6 := ⟨Tryz.f158.name, by decide, Tryz.func158.trans (congrArg some (by kernel_rfl))⟩
  f8 := ⟨Tryz.f86.name, by decide, Tryz.func86.trans (congrArg some (by kernel_rfl))⟩
  t0 := Tryz.underlying0
  a0 := Tryz.isAgg0
  z0 := Tryz.sizeOf0
  v0 := Tryz.zeroValue0
  t3 := Tryz.underlying3
  a3 := Tryz.isAgg3
  z3 := Tryz.sizeOf3
  v3 := Tryz.zeroValue3
  t4 := Tryz.underlying4
  a4 := Tryz.isAgg4
  z4 := Tryz.sizeOf4
  v4 := Tryz.zeroValue4
  t22 := Tryz.underlying87
  a22 := Tryz.isAgg87
  z22 := Tryz.sizeOf87
  v22 := Tryz.zeroValue87
  a23 := Tryz.isAgg2
  z23 := Tryz.sizeOf2
  t25 := Tryz.underlying179
  a25 := Tryz.isAgg179
  z25 := Tryz.sizeOf179
  v25 := Tryz.zeroValue179 }
def Tryz.equalLong_ren : Go.Shelf.Ren := ⟨fun | 33 => 104 | n => n, fun | 22 => 87 | 23 => 2 | 4 => 4 | 3 => 3 | 0 => 0 | n => n, fun | n => n⟩
theorem Tryz.equalLong : Go.Proofs.SlLaysN.n33 Tryz.prog Tryz.equalLong_ren := {
  mixed := by kernel_rfl
  f33 := ⟨Tryz.f104.name, by decide, Tryz.func104.trans (congrArg some (by kernel_rfl))⟩
  t0 := Tryz.underlying0
  a0 := Tryz.isAgg0
  z0 := Tryz.sizeOf0
  v0 := Tryz.zeroValue0
  t3 := Tryz.underlying3
  a3 := Tryz.isAgg3
  z3 := Tryz.sizeOf3
  v3 := Tryz.zeroValue3
  t4 := Tryz.underlying4
  a4 := Tryz.isAgg4
  z4 := Tryz.sizeOf4
  v4 := Tryz.zeroValue4
  t22 := Tryz.underlying87
  a22 := Tryz.isAgg87
  z22 := Tryz.sizeOf87
  v22 := Tryz.zeroValue87
  t23 := Tryz.underlying2
  a23 := Tryz.isAgg2
  z23 := Tryz.sizeOf2
  v23 := Tryz.zeroValue2 }
def Tryz.cloneLong_ren : Go.Shelf.Ren := ⟨fun | 41 => 111 | n => n, fun | 22 => 87 | 23 => 2 | 4 => 4 | n => n, fun | n => n⟩
theorem Tryz.cloneLong : Go.Proofs.SlLaysN.n41 Tryz.prog Tryz.cloneLong_ren := {
  mixed := by kernel_rfl
  f41 := ⟨Tryz.f111.name, by decide, Tryz.func111.trans (congrArg some (by kernel_rfl))⟩
  t4 := Tryz.underlying4
  a4 := Tryz.isAgg4
  z4 := Tryz.sizeOf4
  v4 := Tryz.zeroValue4
  t22 := Tryz.underlying87
  a22 := Tryz.isAgg87
  z22 := Tryz.sizeOf87
  v22 := Tryz.zeroValue87
  t23 := Tryz.underlying2
  a23 := Tryz.isAgg2
  z23 := Tryz.sizeOf2
  v23 := Tryz.zeroValue2
  i23 := by kernel_rfl }
def Tryz.sortInts_ren : Go.Shelf.Ren := ⟨fun | 189 => 101 | 125 => 97 | 257 => 175 | 128 => 173 | 129 => 174 | 294 => 234 | 295 => 235 | 296 => 236 | 297 => 237 | 298 => 238 | 299 => 239 | 216 => 240 | 300 => 241 | 301 => 242 | 328 => 269 | 329 => 230 | 330 => 231 | 331 => 270 | 332 => 271 | 215 => 95 | 343 => 284 | n => n, fun | 28 => 192 | 3 => 3 | 46 => 195 | 0 => 0 | 51 => 139 | 53 => 182 | 4 => 4 | 183 => 300 | 182 => 299 | 131 => 212 | 5 => 5 | 9 => 9 | 218 => 377 | 222 => 354 | 228 => 414 | 229 => 415 | n => n, fun | n => n⟩
theorem Tryz.sortInts : Go.Proofs.Lays.n189 Tryz.prog Tryz.sortInts_ren := {
  mixed := by kernel_rfl
  f125 := Tryz.func97.trans (congrArg some (by kernel_rfl))
  f128 := Tryz.func173.trans (congrArg some (by kernel_rfl))
  f129 := Tryz.func174.trans (congrArg some (by kernel_rfl))
  f189 := Tryz.func101.trans (congrArg some (by kernel_rfl))
  f215 := Tryz.func95.trans (congrArg some (by kernel_rfl))
  f216 := Tryz.func240.trans (congrArg some (by kernel_rfl))
  f257 := Tryz.func175.trans (congrArg some (by kernel_rfl))
  f294 := Tryz.func234.trans (congrArg some (by kernel_rfl))
  f295 := Tryz.func235.trans (congrArg some (by kernel_rfl))
  f296 := Tryz.func236.trans (congrArg some (by kernel_rfl))
  f297 := Tryz.func237.trans (congrArg some (by kernel_rfl))
  f298 := Tryz.func238.trans (congrArg some (by kernel_rfl))
  f299 := Tryz.func239.trans (congrArg some (by kernel_rfl))
  f300 := Tryz.func241.trans (congrArg some (by kernel_rfl))
  f301 := Tryz.func242.trans (congrArg some (by kernel_rfl))
  f328 := Tryz.func269.trans (congrArg some (by kernel_rfl))
  f329 := Tryz.func230.trans (congrArg some (by kernel_rfl))
  f330 := Tryz.func231.trans (congrArg some (by kernel_rfl))
  f331 := Tryz.func270.trans (congrArg some (by kernel_rfl))
  f332 := Tryz.func271.trans (congrArg some (by kernel_rfl))
  f343 := Tryz.func284.trans (congrArg some (by kernel_rfl))
  t0 := Tryz.underlying0
  a0 := Tryz.isAgg0
  z0 := Tryz.sizeOf0
  v0 := Tryz.zeroValue0
  t3 := Tryz.underlying3
  a3 := Tryz.isAgg3
  z3 := Tryz.sizeOf3
  v3 := Tryz.zeroValue3
  t4 := Tryz.underlying4
  a4 := Tryz.isAgg4
  z4 := Tryz.sizeOf4
  v4 := Tryz.zeroValue4
  t5 := Tryz.underlying5
  a5 := Tryz.isAgg5
  z5 := Tryz.sizeOf5
  v5 := Tryz.zeroValue5
  t9 := Tryz.underlying9
  a9 := Tryz.isAgg9
  z9 := Tryz.sizeOf9
  v9 := Tryz.zeroValue9
  t28 := Tryz.underlying192
  a28 := Tryz.isAgg192
  z28 := Tryz.sizeOf192
  v28 := Tryz.zeroValue192
  t46 := Tryz.underlying195
  a46 := Tryz.isAgg195
  z46 := Tryz.sizeOf195
  v46 := Tryz.zeroValue195
  t51 := Tryz.underlying139
  a51 := Tryz.isAgg139
  z51 := Tryz.sizeOf139
  v51 := Tryz.zeroValue139
  t53 := Tryz.underlying182
  a53 := Tryz.isAgg182
  z53 := Tryz.sizeOf182
  v53 := Tryz.zeroValue182
  t131 := Tryz.underlying212
  a131 := Tryz.isAgg212
  z131 := Tryz.sizeOf212
  v131 := Tryz.zeroValue212
  t182 := Tryz.underlying299
  a182 := Tryz.isAgg299
  z182 := Tryz.sizeOf299
  v182 := Tryz.zeroValue299
  t183 := Tryz.underlying300
  a183 := Tryz.isAgg300
  z183 := Tryz.sizeOf300
  v183 := Tryz.zeroValue300
  t218 := Tryz.underlying377
  a218 := Tryz.isAgg377
  z218 := Tryz.sizeOf377
  v218 := Tryz.zeroValue377
  t222 := Tryz.underlying354
  a222 := Tryz.isAgg354
  z222 := Tryz.sizeOf354
  v222 := Tryz.zeroValue354
  t228 := Tryz.underlying414
  a228 := Tryz.isAgg414
  z228 := Tryz.sizeOf414
  v228 := Tryz.zeroValue414
  t229 := Tryz.underlying415
  a229 := Tryz.isAgg415
  z229 := Tryz.sizeOf415
  v229 := Tryz.zeroValue415 }
def Tryz.compactInts_ren : Go.Shelf.Ren := ⟨fun | 20 => 102 | n => n, fun | 22 => 192 | 3 => 3 | 4 => 4 | 0 => 0 | n => n, fun | n => n⟩
theorem Tryz.compactInts : Go.Proofs.Lays2.n20 Tryz.prog Tryz.compactInts_ren := {
  mixed := by kernel_rfl
  f20 := Tryz.func102.trans (congrArg some (by kernel_rfl))
  t0 := Tryz.underlying0
  a0 := Tryz.isAgg0
  z0 := Tryz.sizeOf0
  v0 := Tryz.zeroValue0
  t3 := Tryz.underlying3
  a3 := Tryz.isAgg3
  z3 := Tryz.sizeOf3
  v3 := Tryz.zeroValue3
  t4 := Tryz.underlying4
  a4 := Tryz.isAgg4
  z4 := Tryz.sizeOf4
  v4 := Tryz.zeroValue4
  t22 := Tryz.underlying192
  a22 := Tryz.isAgg192
  z22 := Tryz.sizeOf192
  v22 := Tryz.zeroValue192
  i3 := by kernel_rfl }
end Go.Proofs
/-
  view.right, view.Right: whether rows, and states, may be.
-/
namespace Go.Proofs.YtbilegkffooioaaGreatDoor
open Go.RowKit

/-- A field that is too wide. -/
def wideF (x : Int) : Bool := decide (x < -2147483648) || decide (2147483647 < x)
/-- Rows that may be, behind a number. -/
def rightGo : Int → List Rw → Bool
  | _, [] => true
  | last, r :: rs => if r.id ≤ last ∨ 2147483647 < r.id ∨ r.fields.any wideF = true then false else rightGo r.id rs
def rightB (most : Int) (rs : List Rw) : Bool := rightGo 0 rs && decide ((rs.length : Int) ≤ most)
def rightS (ps : List Pl) (ss : List Sh) : Bool := rightB 8 (ps.map Pl.row) && rightB 64 (ss.map Sh.row)
/-- The two variables of the package. -/
structure Gl (w : World) : Prop where
  players : w.heap[0]? = some (.cells #[.int .i64 14, .int .i64 6, .int .i64 8] 83 (0, 0))
  shots : w.heap[1]? = some (.cells #[.int .i64 10, .int .i64 9, .int .i64 64] 83 (0, 0))
theorem Gl.two {w : World} (h : Gl w) : 2 ≤ w.heap.size := by
  have := (Array.getElem?_eq_some_iff.1 h.shots).1
  omega
theorem Gl.grown {w w' : World} (h : Gl w) (hg : w.grownBy w' none) : Gl w' :=
  ⟨(hg.block 0 (by have := h.two; omega) (by simp)).trans h.players, (hg.block 1 (by have := h.two; omega) (by simp)).trans h.shots⟩
theorem grown_below {w w' : World} (h : Go.RowKit.Below w.heap.size w w') : w.grownBy w' none := ⟨h.os, h.tape, h.output, h.size, fun k hk _ => h.block k hk⟩
theorem ints_kept {w w' : World} {g : Nat} {zs : List Int} (h : ∀ j u, (ints zs)[j]? = some u → w.cell? ⟨g, 0 + j, none⟩ = some u) (hg : w.grownBy w' none) (hl : g < w.heap.size) : ∀ j u, (ints zs)[j]? = some u → w'.cell? ⟨g, 0 + j, none⟩ = some u :=
  fun j u hu => (World.cell?_of_block (hg.block g hl (by simp))).trans (h j u hu)

theorem new_cell (w : World) (cs : Array Value) (t : TypeId) (j : Nat) (u : Value) (h : cs[j]? = some u) : (w.alloc (.cells cs t)).cell? ⟨w.heap.size, j, none⟩ = some u := (cell_of_row _ _ j cs t (0, 0) (heap_alloc_new w (.cells cs t))).trans h
theorem grown_at {a b : World} {r : Option Nat} (h : a.grownBy b r) (k i : Nat) (u : Value) (hk : a.cell? ⟨k, i, none⟩ = some u) (hl : k < a.heap.size) (hr : some k ≠ r) : b.cell? ⟨k, i, none⟩ = some u :=
  (World.cell?_of_block (a := ⟨k, i, none⟩) (h.block k hl hr)).trans hk
theorem new_lt (w : World) (o : Obj) : w.heap.size < (w.alloc o).heap.size := by simp

theorem wide_calls (x : Int) (W : World) : Calls Tryz.prog 85 #[.int .i64 x] W fun e w' => e = .returned (.bool (wideF x)) ∧ w' = W := by
  unfold wideF
  by_cases h1 : x < -2147483648
  · go_enter Tryz.func85, Tryz.ntmps85
    go_wp2
    go_ret
    exact ⟨by simp [h1], rfl⟩
  · by_cases h2 : 2147483647 < x
    · go_enter Tryz.func85, Tryz.ntmps85
      go_wp2
      go_ret
      exact ⟨by simp, rfl⟩
    · go_enter Tryz.func85, Tryz.ntmps85
      go_wp2
      go_ret
      exact ⟨by simp; omega, rfl⟩

theorem contains_calls (g n c : Nat) (zs : List Int) (w : World) (hn : zs.length = n) (hbig : n ≤ 1000000) (h : ∀ j u, (ints zs)[j]? = some u → w.cell? ⟨g, 0 + j, none⟩ = some u) :
    Calls Tryz.prog 86 #[.slice (some ⟨g, 0, none⟩) n c, .func (.func 85) #[] #[]] w fun e w' => e = .returned (.bool (zs.any wideF)) ∧ w.grownBy w' none := by
  refine (AnyE.slices_ContainsFunc (P := Tryz.prog) (ρ := Tryz.containsLong_ren) Tryz.containsLong (Value.int .i64) wideF 85 #[] (enters_of Tryz.func85 (by kernel_rfl) rfl) g 0 n c zs w ?_ (by omega) (by omega) ?_).mono ?_
  · intro W x _
    exact (wide_calls x W).mono fun e w' ⟨he, hw⟩ => ⟨he, 0, by rw [hw]; rfl⟩
  · intro j hj
    refine h j _ ?_
    simp [ints, hj]
  · rintro e w' ⟨rfl, q, rfl⟩
    rw [List.take_of_length_le (by omega)]
    exact ⟨rfl, grown_drawn (World.grownBy.refl w none) q⟩

set_option maxHeartbeats 8000000 in
set_option maxRecDepth 1000000 in
/-- Whether rows of a sort may be. -/
theorem right_calls (f fl most : Int) (n c : Nat) (A : Option Addr) (lo : Nat) (rs : List Rw) (hn : n ≤ 1000000) (hf : ∀ r ∈ rs, r.fields.length ≤ 1000000) (w : World) (h : RowsAt w lo A n rs) :
    Calls Tryz.prog 28 #[.agg #[.int .i64 f, .int .i64 fl, .int .i64 most], .slice A n c] w fun e w' => e = .returned (.bool (rightB most rs)) ∧ w.grownBy w' none := by
  obtain ⟨vs, hvs, hr, hF, _⟩ := h
  have HR := Lib.hid hr
  have HF := Lib.hid hF
  have HV := Lib.hid hvs
  have hlen : rs.length = n := by rw [← hvs, List.length_map]; exact hr.1
  have HL := Lib.hid hlen
  have HFL := Lib.hid hf
  obtain ⟨res, hres⟩ : ∃ res, rightB most rs = res := ⟨_, rfl⟩
  have HRES := Lib.hid hres
  rw [hres]
  clear hr hF hvs hlen hf hres
  go_enter Tryz.func28, Tryz.ntmps28
  go_wp2_with fail
  go_loopg [5, 11] n (fun kx s5 s11 wr => ∃ (k : Nat) (last : Int), s5 = .int .i64 last ∧ s11 = .int .i64 k ∧ k ≤ n ∧ n - k ≤ kx ∧ Hid (w.grownBy wr none) ∧ wr.cell? ⟨w.heap.size, 2, none⟩ = some (.int .i64 most) ∧ Hid (w.heap.size < wr.heap.size) ∧ Hid (rightGo 0 rs = rightGo last (rs.drop k)))
  case atStart => exact ⟨0, 0, rfl, rfl, by omega, by omega, World.grownBy_alloc _ _ none, by simp, Lib.hid (by simp), Lib.hid (by simp)⟩
  case round =>
    obtain ⟨k, last, rfl, rfl, hk, hkx, HG, c2, HS, HGO⟩ := hrel
    by_cases hlt : k < n
    · obtain ⟨b, off, v, rfl, hb, hx, hr⟩ := (HR.out.grown HG.out (Nat.le_refl _) (by simp)).at_ Rv.cl_len hlt
      obtain ⟨g, hA, hlo, hg, _, hcells⟩ := (HF.out v (List.mem_of_getElem? hx)).kept HG.out
      have HX := Lib.hid hx
      have hrx : rs[k]? = some v.row := by rw [← HV.out, List.getElem?_map, hx]; rfl
      have HGO2 : Hid (rightGo 0 rs = if v.id ≤ last ∨ 2147483647 < v.id ∨ v.fields.any wideF = true then false else rightGo v.id (rs.drop (k + 1))) := Lib.hid (by
        obtain ⟨hk2, e⟩ := List.getElem?_eq_some_iff.1 hrx
        rw [HGO.out, List.drop_eq_getElem_cons hk2, e]; rfl)
      have hvl : v.fields.length ≤ 1000000 := HFL.out v.row (List.mem_of_getElem? hrx)
      obtain ⟨c0, c1⟩ := row_cells hr
      rw [hA] at c1
      have HC := Lib.hid hcells
      have HGL := Lib.hid hg
      have HVL := Lib.hid hvl
      have HRX := Lib.hid hrx
      clear hr hb hx hA hlo hg hcells hvl hrx
      have hbk : (k : Int) < (n : Int) := by omega
      by_cases h1 : v.id ≤ last
      · have HE : Hid (res = false) := Lib.hid (by rw [← HRES.out, rightB, HGO2.out, if_pos (.inl h1)]; rfl)
        go_wp2
        go_ret
        exact ⟨by rw [HE.out]; rfl, HG.out.trans (World.grownBy_alloc _ _ none)⟩
      · by_cases h2 : 2147483647 < v.id
        · have HE : Hid (res = false) := Lib.hid (by rw [← HRES.out, rightB, HGO2.out, if_pos (.inr (.inl h2))]; rfl)
          go_wp2
          go_ret
          exact ⟨by rw [HE.out]; rfl, HG.out.trans (World.grownBy_alloc _ _ none)⟩
        · obtain ⟨an, han⟩ : ∃ an, v.fields.any wideF = an := ⟨_, rfl⟩
          have HAN := Lib.hid han
          clear han
          rcases an with _ | _
          · go_wp2_with (go_at_call 86; refine (contains_calls g v.fields.length _ v.fields _ rfl HVL.out (ints_kept HC.out (World.grownBy_alloc _ _ none) HGL.out)).mono ?_; rw [HAN.out]; rintro _ w2 ⟨rfl, hg2⟩; have d0 := grown_at hg2 wr.heap.size 0 _ (new_cell wr _ 89 0 _ rfl) (new_lt _ _) (by simp); have HG2 := Lib.hid hg2; clear hg2)
            go_roundg (n - (k + 1))
            case measure => omega
            case rel =>
              have hgw := (World.grownBy_alloc _ _ none).trans HG2.out
              refine ⟨k + 1, v.id, rfl, by go_num, by omega, by omega, HG.out.trans hgw, grown_at hgw _ _ _ c2 HS.out (by simp), Nat.lt_of_lt_of_le HS.out hgw.size, Lib.hid ?_⟩
              rw [HGO2.out, if_neg (by rintro (h | h | h); omega; omega; rw [HAN.out] at h; cases h)]
          · have HE : Hid (res = false) := Lib.hid (by rw [← HRES.out, rightB, HGO2.out, if_pos (.inr (.inr HAN.out))]; rfl)
            go_wp2_with (go_at_call 86; refine (contains_calls g v.fields.length _ v.fields _ rfl HVL.out (ints_kept HC.out (World.grownBy_alloc _ _ none) HGL.out)).mono ?_; rw [HAN.out]; rintro _ w2 ⟨rfl, hg2⟩; have HG2 := Lib.hid hg2; clear hg2)
            go_ret
            exact ⟨by rw [HE.out]; rfl, HG.out.trans ((World.grownBy_alloc _ _ none).trans HG2.out)⟩
    · obtain rfl : k = n := by omega
      go_wp2
      go_ret
      refine ⟨?_, HG.out⟩
      rw [← HRES.out, rightB, HGO.out, List.drop_eq_nil_of_le (by rw [HL.out]; omega), HL.out]
      rfl

/-- What Right reads lies behind whatever grows the world. -/
theorem right_cells {w W : World} (h : Gl w) (v1 v2 : Value) (hg : (w.alloc (.cells #[v1, v2] 26)).grownBy W none) :
    W.cell? ⟨0, 0, none⟩ = some (.int .i64 14) ∧ W.cell? ⟨0, 1, none⟩ = some (.int .i64 6) ∧ W.cell? ⟨0, 2, none⟩ = some (.int .i64 8) ∧
    W.cell? ⟨1, 0, none⟩ = some (.int .i64 10) ∧ W.cell? ⟨1, 1, none⟩ = some (.int .i64 9) ∧ W.cell? ⟨1, 2, none⟩ = some (.int .i64 64) ∧
    W.cell? ⟨w.heap.size, 0, none⟩ = some v1 ∧ W.cell? ⟨w.heap.size, 1, none⟩ = some v2 := by
  have h2 := h.grown ((World.grownBy_alloc _ _ none).trans hg)
  refine ⟨(cell_of_row _ _ 0 _ _ _ h2.players), (cell_of_row _ _ 1 _ _ _ h2.players), (cell_of_row _ _ 2 _ _ _ h2.players), (cell_of_row _ _ 0 _ _ _ h2.shots), (cell_of_row _ _ 1 _ _ _ h2.shots), (cell_of_row _ _ 2 _ _ _ h2.shots), ?_, ?_⟩
  · exact grown_at hg _ 0 _ (new_cell w _ 26 0 _ rfl) (new_lt _ _) (by simp)
  · exact grown_at hg _ 1 _ (new_cell w _ 26 1 _ rfl) (new_lt _ _) (by simp)
theorem row_short : ∀ {ps : List Pl}, ∀ r ∈ ps.map Pl.row, r.fields.length ≤ 1000000 := fun r hr => by
  obtain ⟨p, _, rfl⟩ := List.mem_map.1 hr
  show p.fields.length ≤ 1000000
  simp [Pl.fields]
theorem srow_short : ∀ {ps : List Sh}, ∀ r ∈ ps.map Sh.row, r.fields.length ≤ 1000000 := fun r hr => by
  obtain ⟨p, _, rfl⟩ := List.mem_map.1 hr
  show p.fields.length ≤ 1000000
  simp [Sh.fields]
theorem grown_drew {a b : World} {r : Option Nat} (h : a.grownBy b r) : a.grownBy b.drew r := ⟨h.os, h.tape, h.output, h.size, h.block⟩
theorem drew_grown {a b : World} {r : Option Nat} (h : a.drew.grownBy b r) : a.grownBy b r := ⟨h.os, h.tape, h.output, h.size, h.block⟩

set_option maxHeartbeats 8000000 in
set_option maxRecDepth 1000000 in
/-- **Right.** -/
theorem rightS_calls (B : Nat) (Ap As : Option Addr) (np cp ns cs : Nat) (ps : List Pl) (ss : List Sh) (hnp : np ≤ 1000000) (hns : ns ≤ 1000000) (w : World) (hgl : Gl w) (hp : Rg 15 Pl.cl w B Ap np ps) (hs : Rg 11 Sh.cl w B As ns ss) (hB : B ≤ w.heap.size) :
    Calls Tryz.prog 6 #[.agg #[.slice Ap np cp, .slice As ns cs]] w fun e w' => e = .returned (.bool (rightS ps ss)) ∧ w.grownBy w' none := by
  have HGL := Lib.hid hgl
  have HP := Lib.hid hp
  have HS := Lib.hid hs
  obtain ⟨b1, h1⟩ : ∃ b1, rightB 8 (ps.map Pl.row) = b1 := ⟨_, rfl⟩
  obtain ⟨b2, h2⟩ : ∃ b2, rightB 64 (ss.map Sh.row) = b2 := ⟨_, rfl⟩
  have HR1 : Hid (∀ (n c : Nat) (A : Option Addr) (lo : Nat) (W : World), n ≤ 1000000 → RowsAt W lo A n (ps.map Pl.row) → Calls Tryz.prog 28 #[.agg #[.int .i64 14, .int .i64 6, .int .i64 8], .slice A n c] W fun e w' => e = .returned (.bool b1) ∧ W.grownBy w' none) := Lib.hid fun n c A lo W hn h => by
    rw [← h1]; exact right_calls 14 6 8 n c A lo _ hn row_short W h
  have HR2 : Hid (∀ (n c : Nat) (A : Option Addr) (lo : Nat) (W : World), n ≤ 1000000 → RowsAt W lo A n (ss.map Sh.row) → Calls Tryz.prog 28 #[.agg #[.int .i64 10, .int .i64 9, .int .i64 64], .slice A n c] W fun e w' => e = .returned (.bool b2) ∧ W.grownBy w' none) := Lib.hid fun n c A lo W hn h => by
    rw [← h2]; exact right_calls 10 9 64 n c A lo _ hn srow_short W h
  have hres : rightS ps ss = (b1 && b2) := by unfold rightS; rw [h1, h2]
  rw [hres]
  clear hgl hp hs h1 h2 hres
  rcases b1 with _ | _
  · go_enter Tryz.func6, Tryz.ntmps6
    go_wp2_with fail
    have hk0 := right_cells HGL.out (.slice Ap np cp) (.slice As ns cs) (World.grownBy.refl _ none)
    first
    | (go_region_with
      (first
        | (go_at_call 31; refine (eachShot_calls B ns cs As ss hns _ (HS.out.grown ((World.grownBy_alloc _ _ none).trans HG3.out) hB (by simp)) (Nat.le_trans hB ((World.grownBy_alloc _ _ none).trans HG3.out).size)).mono ?_; rintro e w4 ⟨A4, c4, rfl, hg4, hrows⟩; have HG4 := Lib.hid (HG3.out.trans hg4); have HRW4 := Lib.hid hrows; clear hg4 hrows; have hk4 := right_cells HGL.out _ _ HG4.out)
        | (go_at_call 28; refine (HR2.out ns c4 A4 _ _ hns HRW4.out).mono ?_; rintro e w5 ⟨rfl, hg5⟩; have HG5 := Lib.hid (HG4.out.trans hg5); clear hg5; have hk5 := right_cells HGL.out _ _ HG5.out)
        | (go_at_call 29; refine (eachPlayer_calls B np cp Ap ps hnp _ (HP.out.grown (grown_drew (World.grownBy_alloc _ _ none)) hB (by simp)) (Nat.le_trans hB (grown_drew (World.grownBy_alloc _ _ none)).size)).mono ?_; rintro e w2 ⟨A2, c2, rfl, hg2, hrows⟩; have HG2 := Lib.hid (drew_grown hg2); have HRW := Lib.hid hrows; clear hg2 hrows; have hk2 := right_cells HGL.out _ _ HG2.out)
        | (go_at_call 28; refine (HR1.out np c2 A2 _ _ hnp HRW.out).mono ?_; rintro e w3 ⟨rfl, hg3⟩; have HG3 := Lib.hid (HG2.out.trans hg3); clear hg3; have hk3 := right_cells HGL.out _ _ HG3.out)))
    | (exact absurd rfl (by decide))
    all_goals
      go_wp2
      go_ret
      exact ⟨rfl, (World.grownBy_alloc _ _ none).trans HG3.out⟩
  · go_enter Tryz.func6, Tryz.ntmps6
    go_wp2_with fail
    have hk0 := right_cells HGL.out (.slice Ap np cp) (.slice As ns cs) (World.grownBy.refl _ none)
    go_region_held3 (fun W => W.cell? ⟨0, 0, none⟩ = some (.int .i64 14) ∧ W.cell? ⟨0, 1, none⟩ = some (.int .i64 6) ∧ W.cell? ⟨0, 2, none⟩ = some (.int .i64 8) ∧
      W.cell? ⟨1, 0, none⟩ = some (.int .i64 10) ∧ W.cell? ⟨1, 1, none⟩ = some (.int .i64 9) ∧ W.cell? ⟨1, 2, none⟩ = some (.int .i64 64) ∧
      W.cell? ⟨w.heap.size, 0, none⟩ = some (.slice Ap np cp) ∧ W.cell? ⟨w.heap.size, 1, none⟩ = some (.slice As ns cs)) (go_keep)
      (first
        | (go_at_call 31; refine (eachShot_calls B ns cs As ss hns _ (HS.out.grown ((World.grownBy_alloc _ _ none).trans HG3.out) hB (by simp)) (Nat.le_trans hB ((World.grownBy_alloc _ _ none).trans HG3.out).size)).mono ?_; rintro e w4 ⟨A4, c4, rfl, hg4, hrows⟩; have HG4 := Lib.hid (HG3.out.trans hg4); have HRW4 := Lib.hid hrows; clear hg4 hrows; have hk4 := right_cells HGL.out _ _ HG4.out)
        | (go_at_call 28; refine (HR2.out ns c4 A4 _ _ hns HRW4.out).mono ?_; rintro e w5 ⟨rfl, hg5⟩; have HG5 := Lib.hid (HG4.out.trans hg5); clear hg5; have hk5 := right_cells HGL.out _ _ HG5.out)
        | (go_at_call 29; refine (eachPlayer_calls B np cp Ap ps hnp _ (HP.out.grown (grown_drew (World.grownBy_alloc _ _ none)) hB (by simp)) (Nat.le_trans hB (grown_drew (World.grownBy_alloc _ _ none)).size)).mono ?_; rintro e w2 ⟨A2, c2, rfl, hg2, hrows⟩; have HG2 := Lib.hid (drew_grown hg2); have HRW := Lib.hid hrows; clear hg2 hrows; have hk2 := right_cells HGL.out _ _ HG2.out)
        | (go_at_call 28; refine (HR1.out np c2 A2 _ _ hnp HRW.out).mono ?_; rintro e w3 ⟨rfl, hg3⟩; have HG3 := Lib.hid (HG2.out.trans hg3); clear hg3; have hk3 := right_cells HGL.out _ _ HG3.out))
    go_wp2
    go_ret
    exact ⟨rfl, (World.grownBy_alloc _ _ none).trans HG5.out⟩
end Go.Proofs.YtbilegkffooioaaGreatDoor
/-
  Package fix, from its leaves: each function walked once.
-/
namespace Go.Proofs.YtbilegkffooioaaGreatDoor
open Go.RowKit

def two64 : Nat := 18446744073709551616
theorem and32 (x : Nat) (hx : x < 18446744073709551616) : bits .and .u64 (x : Int) 4294967295 = ((x % 4294967296 : Nat) : Int) := by
  refine (bits_and_u64_nat x 4294967295 hx (by decide)).trans ?_
  have := Nat.and_two_pow_sub_one_eq_mod x 32
  simp only [Nat.reducePow, Nat.reduceSub] at this
  rw [this]
theorem u64_small (x : Nat) (hx : x < 18446744073709551616) : IntKind.u64.wrap (x : Int) = (x : Int) := by rw [IntKind.wrap_u64]; omega
theorem u64_mod (x : Nat) : IntKind.u64.wrap (x : Int) = ((x % 18446744073709551616 : Nat) : Int) := by rw [IntKind.wrap_u64]; omega

set_option maxRecDepth 100000 in
set_option maxHeartbeats 1000000 in
/-- **math/bits.Mul64.** -/
theorem mul64_calls (x y : Nat) (hx : x < 18446744073709551616) (hy : y < 18446744073709551616) (w : World) :
    Calls Tryz.prog 226 #[.int .u64 x, .int .u64 y] w fun e w' => e = .returned (.tuple #[.int .u64 (x * y / 18446744073709551616 : Nat), .int .u64 (x * y % 18446744073709551616 : Nat)]) ∧ w = w' := by
  obtain ⟨h1, h2, h3, h4⟩ := Lib.mul64_hi x y hx hy
  have a1 := and32 x hx
  have a2 := and32 y hy
  obtain ⟨x0, hx0⟩ : ∃ x0, x % 4294967296 = x0 := ⟨_, rfl⟩
  obtain ⟨x1, hx1⟩ : ∃ x1, x / 4294967296 = x1 := ⟨_, rfl⟩
  obtain ⟨y0, hy0⟩ : ∃ y0, y % 4294967296 = y0 := ⟨_, rfl⟩
  obtain ⟨y1, hy1⟩ : ∃ y1, y / 4294967296 = y1 := ⟨_, rfl⟩
  rw [hx0, hy0] at h1
  rw [hx0, hx1, hy0] at h2
  rw [hx0, hx1, hy0, hy1] at h3 h4
  rw [hx0] at a1
  rw [hy0] at a2
  have s1 : ((x : Int) / 4294967296) = (x1 : Int) := by omega
  have s2 : ((y : Int) / 4294967296) = (y1 : Int) := by omega
  obtain ⟨w0, hw0⟩ : ∃ v, x0 * y0 = v := ⟨_, rfl⟩
  obtain ⟨t, ht⟩ : ∃ v, x1 * y0 + w0 / 4294967296 = v := ⟨_, rfl⟩
  obtain ⟨v, hv⟩ : ∃ v, t % 4294967296 + x0 * y1 = v := ⟨_, rfl⟩
  rw [hw0] at h1 h2 h3 h4
  rw [ht] at h2 h3 h4
  rw [hv] at h3 h4
  have e1 : IntKind.u64.wrap ((x0 : Int) * (y0 : Int)) = (w0 : Int) := by rw [← Int.natCast_mul, hw0]; exact u64_small _ h1
  obtain ⟨w2, hw2⟩ : ∃ v, w0 / 4294967296 = v := ⟨_, rfl⟩
  have e2 : ((w0 : Int) / 4294967296) = (w2 : Int) := by omega
  have e3 : IntKind.u64.wrap ((x1 : Int) * (y0 : Int)) = ((x1 * y0 : Nat) : Int) := by rw [← Int.natCast_mul]; exact u64_small _ (by omega)
  have e4 : IntKind.u64.wrap (((x1 * y0 : Nat) : Int) + (w2 : Int)) = (t : Int) := by rw [← Int.natCast_add, ← hw2, ht]; exact u64_small _ h2
  have e5 := and32 t h2
  obtain ⟨t0, ht0⟩ : ∃ v, t % 4294967296 = v := ⟨_, rfl⟩
  obtain ⟨t1, ht1⟩ : ∃ v, t / 4294967296 = v := ⟨_, rfl⟩
  rw [ht0] at e5 hv
  rw [ht1] at h4
  have e6 : ((t : Int) / 4294967296) = (t1 : Int) := by omega
  have e7 : IntKind.u64.wrap ((x0 : Int) * (y1 : Int)) = ((x0 * y1 : Nat) : Int) := by rw [← Int.natCast_mul]; exact u64_small _ (by omega)
  have e8 : IntKind.u64.wrap ((t0 : Int) + ((x0 * y1 : Nat) : Int)) = (v : Int) := by rw [← Int.natCast_add, hv]; exact u64_small _ h3
  obtain ⟨v1, hv1⟩ : ∃ u, v / 4294967296 = u := ⟨_, rfl⟩
  rw [hv1] at h4
  have e9 : ((v : Int) / 4294967296) = (v1 : Int) := by omega
  obtain ⟨H, hH⟩ : ∃ H, x * y / 18446744073709551616 = H := ⟨_, rfl⟩
  have hHlt : H < 18446744073709551616 := by
    rw [← hH]
    refine Nat.div_lt_of_lt_mul ?_
    exact Nat.mul_lt_mul'' hx hy
  rw [hH] at h4 ⊢
  have e10 : IntKind.u64.wrap ((x1 : Int) * (y1 : Int)) = ((x1 * y1 : Nat) : Int) := by rw [← Int.natCast_mul]; exact u64_small _ (by omega)
  have e11 : IntKind.u64.wrap (((x1 * y1 : Nat) : Int) + (t1 : Int)) = ((x1 * y1 + t1 : Nat) : Int) := by rw [← Int.natCast_add]; exact u64_small _ (by omega)
  have e12 : IntKind.u64.wrap (((x1 * y1 + t1 : Nat) : Int) + (v1 : Int)) = (H : Int) := by rw [← Int.natCast_add, h4]; exact u64_small _ hHlt
  obtain ⟨L, hL⟩ : ∃ L, x * y % 18446744073709551616 = L := ⟨_, rfl⟩
  have e13 : IntKind.u64.wrap ((x : Int) * (y : Int)) = (L : Int) := by rw [← Int.natCast_mul, u64_mod, hL]
  rw [hL]
  obtain ⟨A, hA⟩ : ∃ A, x1 * y0 = A := ⟨_, rfl⟩
  obtain ⟨B, hB⟩ : ∃ A, x0 * y1 = A := ⟨_, rfl⟩
  obtain ⟨C, hC⟩ : ∃ A, x1 * y1 = A := ⟨_, rfl⟩
  obtain ⟨D, hD⟩ : ∃ A, C + t1 = A := ⟨_, rfl⟩
  rw [hA] at e3 e4
  rw [hB] at e7 e8
  rw [hC] at e10 e11 e12
  rw [hD] at e11 e12
  clear h1 h2 h3 h4 hx0 hx1 hy0 hy1 hw0 ht hv hw2 ht0 ht1 hv1 hH hL hA hB hC hD hx hy hHlt
  go_enter Tryz.func226, Tryz.ntmps226
  go_wp2
  go_ret2
  exact ⟨rfl, rfl⟩
end Go.Proofs.YtbilegkffooioaaGreatDoor
/-
  Package fix: wide numbers.
-/
namespace Go.Proofs.YtbilegkffooioaaGreatDoor
open Go.RowKit

theorem add64_run (x y c : Nat) (hc : c ≤ 1) (w : World) : (callFunc 227 #[.int .u64 x, .int .u64 y, .int .u64 c]).run Tryz.prog w =
      .ok (.value (.tuple #[.int .u64 (((x + y + c) % 18446744073709551616 : Nat) : Int), .int .u64 (((x + y + c) / 18446744073709551616 : Nat) : Int)])) w := by
  rw [run_callFunc_extern Tryz.func227 (by kernel_rfl) (by kernel_rfl) (by kernel_rfl) (e := add64Entry) (by kernel_rfl), run_add64 x y c (by omega) (by omega) (by omega) (by omega)]
  simp only [Result.andThen]
  congr 5 <;> omega
/-- A wide number's value. -/
abbrev wv (h l : Nat) : Value := .agg #[.int .u64 (h : Int), .int .u64 (l : Int)]

set_option maxHeartbeats 400000 in
theorem product_calls (x y : Nat) (hx : x < 18446744073709551616) (hy : y < 18446744073709551616) (w : World) :
    Calls Tryz.prog 160 #[.int .u64 x, .int .u64 y] w fun e w' => e = .returned (wv (x * y / 18446744073709551616) (x * y % 18446744073709551616)) ∧ w.grownBy w' none := by
  have H := Lib.hid (fun W => mul64_calls x y hx hy W)
  obtain ⟨a, ha⟩ : ∃ a, x * y / 18446744073709551616 = a := ⟨_, rfl⟩
  obtain ⟨b, hb⟩ : ∃ a, x * y % 18446744073709551616 = a := ⟨_, rfl⟩
  rw [ha, hb] at H
  rw [ha, hb]
  clear ha hb hx hy
  go_enter Tryz.func160, Tryz.ntmps160
  go_wp2_with (go_at_call 226; refine (H.out _).mono ?_; rintro e w' ⟨rfl, rfl⟩)
  exact bodyPost_ret (v := wv a b) (by simp [results, Tryz.results160, go_sem]) rfl ⟨rfl, by repeat (first | exact World.grownBy.refl _ _ | refine only_trans ?_ (World.grownBy_alloc _ _ none))⟩

theorem size_calls (a : Int) (ha : -9223372036854775808 ≤ a ∧ a ≤ 9223372036854775807) (w : World) :
    Calls Tryz.prog 161 #[.int .i64 a] w fun e w' => e = .returned (.int .u64 (a.natAbs : Nat)) ∧ w = w' := by
  by_cases h : a < 0
  · have e1 : IntKind.u64.wrap (-(IntKind.u64.wrap a)) = (a.natAbs : Int) := by rw [IntKind.wrap_u64, IntKind.wrap_u64]; omega
    go_enter Tryz.func161, Tryz.ntmps161
    go_wp2
    go_ret
    exact ⟨rfl, rfl⟩
  · have e1 : IntKind.u64.wrap a = (a.natAbs : Int) := by rw [IntKind.wrap_u64]; omega
    go_enter Tryz.func161, Tryz.ntmps161
    go_wp2
    go_ret
    exact ⟨rfl, rfl⟩

/-- The sum of two wide numbers. -/
def wsum (a b c d : Nat) : Nat × Nat := ((a + c + (b + d) / 18446744073709551616) % 18446744073709551616, (b + d) % 18446744073709551616)
set_option maxRecDepth 100000 in
set_option maxHeartbeats 1000000 in
theorem plus_calls (a b c d : Nat) (hb : b < 18446744073709551616) (hd : d < 18446744073709551616) (w : World) :
    Calls Tryz.prog 162 #[wv a b, wv c d] w fun e w' => e = .returned (wv (wsum a b c d).1 (wsum a b c d).2) ∧ w.grownBy w' none := by
  have h1 : ∀ W : World, (callFunc 227 #[.int .u64 b, .int .u64 d, .int .u64 0]).run Tryz.prog W = .ok (.value (.tuple #[.int .u64 (((b + d) % 18446744073709551616 : Nat) : Int), .int .u64 (((b + d) / 18446744073709551616 : Nat) : Int)])) W := fun W => add64_run b d 0 (by decide) W
  obtain ⟨s, hs⟩ : ∃ s, (b + d) % 18446744073709551616 = s := ⟨_, rfl⟩
  obtain ⟨k, hk⟩ : ∃ k, (b + d) / 18446744073709551616 = k := ⟨_, rfl⟩
  have hk1 : k ≤ 1 := by omega
  have h2 := fun W => add64_run a c k hk1 W
  unfold wsum
  rw [hk, hs]
  simp only [hk, hs] at h1
  obtain ⟨u, hu⟩ : ∃ u, (a + c + k) % 18446744073709551616 = u := ⟨_, rfl⟩
  obtain ⟨z, hz⟩ : ∃ z, (a + c + k) / 18446744073709551616 = z := ⟨_, rfl⟩
  simp only [hu, hz] at h2
  rw [hu]
  clear hs hk hk1 hu hz hb hd
  go_enter Tryz.func162, Tryz.ntmps162
  go_wp2
  exact bodyPost_ret (v := wv u s) (by simp [results, Tryz.results162, go_sem]) rfl ⟨rfl, by repeat (first | exact World.grownBy.refl _ _ | refine only_trans ?_ (World.grownBy_alloc _ _ none))⟩

/-- Is one wide number above another one? -/
def wabove (a b c d : Nat) : Bool := decide (c < a) || (decide (a = c) && decide (d < b))
set_option maxRecDepth 100000 in
set_option maxHeartbeats 1000000 in
theorem above_calls (a b c d : Nat) (w : World) : Calls Tryz.prog 163 #[wv a b, wv c d] w fun e w' => e = .returned (.bool (wabove a b c d)) ∧ w.grownBy w' none := by
  unfold wabove
  rcases h1 : decide (c < a) with _ | _ <;> rcases h2 : decide (a = c) with _ | _ <;> rcases h3 : decide (d < b) with _ | _
  all_goals
    have g1 : decide ((c : Int) < (a : Int)) = decide (c < a) := decide_eq_decide.2 (by omega)
    have g2 : ((a : Int) == (c : Int)) = decide (a = c) := by rw [Bool.eq_iff_iff]; simp; omega
    have g3 : decide ((d : Int) < (b : Int)) = decide (d < b) := decide_eq_decide.2 (by omega)
    have g4 : (a == c) = decide (a = c) := by rw [Bool.eq_iff_iff]; simp
    rw [h1] at g1
    rw [h2] at g2 g4
    rw [h3] at g3
    go_enter Tryz.func163, Tryz.ntmps163
    go_wp2
    go_ret
    exact ⟨ret_bool (by simp), by repeat (first | exact World.grownBy.refl _ _ | refine only_trans ?_ (World.grownBy_alloc _ _ none))⟩

/-- A wide number with a sign, saturated. -/
def wsigned (h l : Nat) (below : Bool) : Int :=
  if below = true then (if 0 < h ∨ 9223372036854775808 < l then -9223372036854775808 else -(l : Int)) else (if 0 < h ∨ 9223372036854775807 < l then 9223372036854775807 else (l : Int))
set_option maxRecDepth 100000 in
set_option maxHeartbeats 1000000 in
theorem signed_calls (h l : Nat) (hl : l < 18446744073709551616) (below : Bool) (w : World) : Calls Tryz.prog 89 #[wv h l, .bool below] w fun e w' => e = .returned (.int .i64 (wsigned h l below)) ∧ w.grownBy w' none := by
  unfold wsigned
  rcases below with _ | _
  · by_cases h1 : 0 < h
    · have g1 : (0 : Int) < (h : Int) := by omega
      rw [if_neg (by simp), if_pos (.inl h1)]
      go_enter Tryz.func89, Tryz.ntmps89
      go_wp2
      go_ret
      exact ⟨rfl, by repeat (first | exact World.grownBy.refl _ _ | refine only_trans ?_ (World.grownBy_alloc _ _ none))⟩
    · obtain rfl : h = 0 := by omega
      by_cases h2 : 9223372036854775807 < l
      · have g2 : (9223372036854775807 : Int) < (l : Int) := by omega
        rw [if_neg (by simp), if_pos (.inr h2)]
        go_enter Tryz.func89, Tryz.ntmps89
        go_wp2
        go_ret
        exact ⟨rfl, by repeat (first | exact World.grownBy.refl _ _ | refine only_trans ?_ (World.grownBy_alloc _ _ none))⟩
      · have g2 : ¬ (9223372036854775807 : Int) < (l : Int) := by omega
        have e1 : IntKind.i64.wrap (l : Int) = (l : Int) := by rw [IntWalk.i64_in _ (by omega)]
        rw [if_neg (by simp), if_neg (by omega)]
        go_enter Tryz.func89, Tryz.ntmps89
        go_wp2
        go_ret
        exact ⟨rfl, by repeat (first | exact World.grownBy.refl _ _ | refine only_trans ?_ (World.grownBy_alloc _ _ none))⟩
  · by_cases h1 : 0 < h
    · have g1 : (0 : Int) < (h : Int) := by omega
      rw [if_pos rfl, if_pos (.inl h1)]
      go_enter Tryz.func89, Tryz.ntmps89
      go_wp2
      go_ret
      exact ⟨rfl, by repeat (first | exact World.grownBy.refl _ _ | refine only_trans ?_ (World.grownBy_alloc _ _ none))⟩
    · obtain rfl : h = 0 := by omega
      by_cases h2 : 9223372036854775808 < l
      · have g2 : (9223372036854775808 : Int) < (l : Int) := by omega
        rw [if_pos rfl, if_pos (.inr h2)]
        go_enter Tryz.func89, Tryz.ntmps89
        go_wp2
        go_ret
        exact ⟨rfl, by repeat (first | exact World.grownBy.refl _ _ | refine only_trans ?_ (World.grownBy_alloc _ _ none))⟩
      · have g2 : ¬ (9223372036854775808 : Int) < (l : Int) := by omega
        have e1 : IntKind.i64.wrap (IntKind.u64.wrap (-(l : Int))) = -(l : Int) := by rw [IntKind.wrap_u64, IntKind.wrap_i64]; omega
        have e2 : wrap64 (IntKind.u64.wrap (-(l : Int))) = -(l : Int) := by rw [← IntWalk.i64_left]; exact e1
        rw [if_pos rfl, if_neg (by omega)]
        go_enter Tryz.func89, Tryz.ntmps89
        go_wp2
        go_ret
        exact ⟨rfl, by repeat (first | exact World.grownBy.refl _ _ | refine only_trans ?_ (World.grownBy_alloc _ _ none))⟩
end Go.Proofs.YtbilegkffooioaaGreatDoor
/-
  Package fix: root, Sub, Add.
-/
namespace Go.Proofs.YtbilegkffooioaaGreatDoor
open Go.RowKit

theorem undrawn {w w' : World} {r : Option Nat} (h : w.drew.grownBy w' r) : w.grownBy w' r := ⟨h.os, h.tape, h.output, h.size, h.block⟩
/-- The greatest number whose square is not above V, bit by bit. -/
def rootN (V : Nat) : Nat → Nat → Nat
  | 0, n => n
  | k + 1, n => rootN V k (if (n + 2 ^ k) * (n + 2 ^ k) ≤ V then n + 2 ^ k else n)
theorem wabove_eq (p h l : Nat) (hl : l < 18446744073709551616) : wabove (p / 18446744073709551616) (p % 18446744073709551616) h l = decide (h * 18446744073709551616 + l < p) := by
  unfold wabove
  rw [Bool.eq_iff_iff]
  simp
  omega
theorem or_bit (n k : Nat) (h : 2 ^ (k + 1) ∣ n) (hk : n + 2 ^ k < 18446744073709551616) : bits .or .u64 (n : Int) ((2 ^ k : Nat) : Int) = ((n + 2 ^ k : Nat) : Int) := by
  obtain ⟨m, rfl⟩ := h
  have hp : 2 ^ k < 2 ^ (k + 1) := Nat.pow_lt_pow_right (by decide) (by omega)
  rw [bits_or_u64_nat _ _ (by omega) (by omega), ← Nat.two_pow_add_eq_or_of_lt hp m]

def iv2 : Value → Int | .int _ x => x | _ => 0
set_option maxRecDepth 100000 in
set_option maxHeartbeats 2000000 in
theorem root_calls (h l : Nat) (hl : l < 18446744073709551616) (w : World) :
    Calls Tryz.prog 90 #[wv h l] w fun e w' => e = .returned (.int .u64 (rootN (h * 18446744073709551616 + l) 64 0 : Nat)) ∧ w.grownBy w' none := by
  obtain ⟨V, hV⟩ : ∃ V, h * 18446744073709551616 + l = V := ⟨_, rfl⟩
  have HAB : Hid (∀ p, wabove (p / 18446744073709551616) (p % 18446744073709551616) h l = decide (V < p)) := Lib.hid (fun p => by rw [wabove_eq p h l hl, hV])
  rw [hV]
  have HV := Lib.hid hV
  clear hV hl
  go_enter Tryz.func90, Tryz.ntmps90
  go_wp2_with fail
  have HB : Hid (Blk (w.alloc (.cells #[.int .u64 h, .int .u64 l] 184)) w.heap.size 184 #[.int .u64 h, .int .u64 l]) := Lib.hid (Blk.new _ _ _)
  have HG : Hid (w.grownBy (w.alloc (.cells #[.int .u64 h, .int .u64 l] 184)) none) := Lib.hid (World.grownBy_alloc _ _ _)
  obtain ⟨w1, hw1⟩ : ∃ w1, w.alloc (.cells #[.int .u64 h, .int .u64 l] 184) = w1 := ⟨_, rfl⟩
  obtain ⟨kb, hkb⟩ : ∃ kb, w.heap.size = kb := ⟨_, rfl⟩
  rw [hw1, hkb] at HB
  rw [hw1] at HG
  rw [hw1, hkb]
  clear hw1 hkb
  go_loopw [2, 3] (fun nv bv wr => ∃ (k n b : Nat), k ≤ 64 ∧ nv = .int .u64 n ∧ bv = .int .u64 b ∧ Hid (2 ^ k / 2 = b) ∧ Hid (2 ^ k ∣ n ∧ n + 2 ^ k ≤ 18446744073709551616) ∧ Hid (rootN V 64 0 = rootN V k n) ∧ Hid (w1.grownBy wr none)) (fun _ b _ => (iv2 b).toNat)
  case atStart => exact ⟨64, 0, _, by omega, rfl, rfl, Lib.hid rfl, Lib.hid ⟨⟨0, rfl⟩, by decide⟩, Lib.hid rfl, Lib.hid (World.grownBy.refl w1 none)⟩
  case round =>
    obtain ⟨k, n, b, hk, rfl, rfl, HBB, HNN, HR, HGR⟩ := hrel
    rcases k with _ | k
    · obtain rfl : b = 0 := by have := HBB.out; simpa using this.symm
      go_wp2_with fail
      go_ret
      exact ⟨by rw [HR.out]; rfl, only_trans HG.out HGR.out⟩
    · have hb : b = 2 ^ k := by rw [← HBB.out, Nat.pow_succ]; omega
      have hb0 : 0 < b := by rw [hb]; exact Nat.two_pow_pos k
      obtain ⟨hdvd, hle⟩ := HNN.out
      rw [Nat.pow_succ] at hle
      have hlt : n + b < 18446744073709551616 := by omega
      have hor : bits .or .u64 (n : Int) (b : Int) = ((n + b : Nat) : Int) := by rw [hb]; exact or_bit n k hdvd (by omega)
      obtain ⟨x, hx⟩ : ∃ x, n + b = x := ⟨_, rfl⟩
      rw [hx] at hor
      have HPC := Lib.hid (fun W => product_calls x x (by omega) (by omega) W)
      have HAC := Lib.hid (fun W => above_calls (x * x / 18446744073709551616) (x * x % 18446744073709551616) h l W)
      rw [HAB.out] at HAC
      obtain ⟨p, hp⟩ : ∃ p, x * x / 18446744073709551616 = p := ⟨_, rfl⟩
      obtain ⟨q, hq⟩ : ∃ p, x * x % 18446744073709551616 = p := ⟨_, rfl⟩
      rw [hp, hq] at HPC HAC
      obtain ⟨ab, hab⟩ : ∃ ab, decide (V < x * x) = ab := ⟨_, rfl⟩
      rw [hab] at HAC
      obtain ⟨b2, hb2⟩ : ∃ b2, b / 2 = b2 := ⟨_, rfl⟩
      have e2 : ((b : Int) / 2) = (b2 : Int) := by omega
      have HB2 := Lib.hid hb2
      have hb2b : b2 < b := by omega
      have HX := Lib.hid hx
      have HBV := Lib.hid hb
      have HABB := Lib.hid hab
      have c0 := (HB.out.grown HGR.out (by simp)).cell 0
      have c1 := (HB.out.grown HGR.out (by simp)).cell 1
      simp only [List.getElem?_toArray, List.getElem?_cons_zero, List.getElem?_cons_succ] at c0 c1
      clear hb hx hp hq hab hdvd hle hlt hb2
      rcases ab with _ | _
      · go_wp2_with fail
        go_region_with (first
          | (go_at_call 160; refine (HPC.out _).mono ?_; rintro e w2 ⟨rfl, h2⟩; have d0 : w2.cell? ⟨kb, 0, none⟩ = some (.int .u64 h) := (undrawn h2).cell c0 (by simp); have d1 : w2.cell? ⟨kb, 1, none⟩ = some (.int .u64 l) := (undrawn h2).cell c1 (by simp); have HG2 := Lib.hid (undrawn h2); clear h2)
          | (go_at_call 163; refine (HAC.out _).mono ?_; rintro e w3 ⟨rfl, h3⟩; have HG3 := Lib.hid (only_trans HG2.out h3); clear h3))
        all_goals
          go_wp2_with fail
          go_roundw
          case rel => exact ⟨k, x, b2, by omega, rfl, rfl, Lib.hid (by rw [← HB2.out, HBV.out]), Lib.hid (by
              have hh := HNN.out
              rw [← HX.out, HBV.out]
              rw [Nat.pow_succ] at hh
              exact ⟨Nat.dvd_add (Nat.dvd_trans ⟨2, rfl⟩ hh.1) (Nat.dvd_refl _), by omega⟩), Lib.hid (by
              rw [HR.out, rootN, if_pos (by have := of_decide_eq_false HABB.out; rw [← HX.out, HBV.out] at this; omega), ← HX.out, HBV.out]), Lib.hid (only_trans HGR.out HG3.out)⟩
          case measure => simp [iv2]; omega
      · go_wp2_with fail
        go_region_with (first
          | (go_at_call 160; refine (HPC.out _).mono ?_; rintro e w2 ⟨rfl, h2⟩; have d0 : w2.cell? ⟨kb, 0, none⟩ = some (.int .u64 h) := (undrawn h2).cell c0 (by simp); have d1 : w2.cell? ⟨kb, 1, none⟩ = some (.int .u64 l) := (undrawn h2).cell c1 (by simp); have HG2 := Lib.hid (undrawn h2); clear h2)
          | (go_at_call 163; refine (HAC.out _).mono ?_; rintro e w3 ⟨rfl, h3⟩; have HG3 := Lib.hid (only_trans HG2.out h3); clear h3))
        all_goals
          go_wp2_with fail
          go_roundw
          case rel => exact ⟨k, n, b2, by omega, rfl, rfl, Lib.hid (by rw [← HB2.out, HBV.out]), Lib.hid (by
              have hh := HNN.out
              rw [Nat.pow_succ] at hh
              exact ⟨Nat.dvd_trans ⟨2, rfl⟩ hh.1, by omega⟩), Lib.hid (by
              rw [HR.out, rootN, if_neg (by have := of_decide_eq_true HABB.out; rw [← HX.out, HBV.out] at this; omega)]), Lib.hid (only_trans HGR.out HG3.out)⟩
          case measure => simp [iv2]; omega
end Go.Proofs.YtbilegkffooioaaGreatDoor
/-
  Package fix: Sub, Add; Minus, Plus.
-/
namespace Go.Proofs.YtbilegkffooioaaGreatDoor
open Go.RowKit

def I64 (a : Int) : Prop := -9223372036854775808 ≤ a ∧ a ≤ 9223372036854775807
/-- A difference, saturated. -/
def subF (a b : Int) : Int := if (decide (a < 0) != decide (b < 0)) = true then wsigned (wsum 0 a.natAbs 0 b.natAbs).1 (wsum 0 a.natAbs 0 b.natAbs).2 (decide (a < 0)) else a - b
/-- A sum, saturated. -/
def addF (a b : Int) : Int := if (decide (a < 0) == decide (b < 0)) = true then wsigned (wsum 0 a.natAbs 0 b.natAbs).1 (wsum 0 a.natAbs 0 b.natAbs).2 (decide (a < 0)) else a + b
theorem wsum_lt (a b c d : Nat) : (wsum a b c d).2 < 18446744073709551616 := Nat.mod_lt _ (by decide)
theorem wsigned_in (h l : Nat) (b : Bool) : I64 (wsigned h l b) := by
  unfold wsigned I64
  split <;> split <;> omega
theorem subF_in {a b : Int} (ha : I64 a) (hb : I64 b) : I64 (subF a b) := by
  unfold subF
  split
  · exact wsigned_in _ _ _
  · rename_i h
    unfold I64 at *
    by_cases h1 : a < 0 <;> by_cases h2 : b < 0 <;> simp [h1, h2] at h <;> omega
theorem addF_in {a b : Int} (ha : I64 a) (hb : I64 b) : I64 (addF a b) := by
  unfold addF
  split
  · exact wsigned_in _ _ _
  · rename_i h
    unfold I64 at *
    by_cases h1 : a < 0 <;> by_cases h2 : b < 0 <;> simp [h1, h2] at h <;> omega

set_option maxRecDepth 100000 in
set_option maxHeartbeats 1000000 in
theorem sub_calls (a b : Int) (ha : I64 a) (hb : I64 b) (w : World) : Calls Tryz.prog 92 #[.int .i64 a, .int .i64 b] w fun e w' => e = .returned (.int .i64 (subF a b)) ∧ w.grownBy w' none := by
  have HA := Lib.hid (fun W => size_calls a ha W)
  have HB := Lib.hid (fun W => size_calls b hb W)
  obtain ⟨x, hx⟩ : ∃ x, a.natAbs = x := ⟨_, rfl⟩
  obtain ⟨y, hy⟩ : ∃ x, b.natAbs = x := ⟨_, rfl⟩
  have hx2 : x < 18446744073709551616 := by unfold I64 at ha; omega
  have hy2 : y < 18446744073709551616 := by unfold I64 at hb; omega
  have HP := Lib.hid (fun W => plus_calls 0 x 0 y hx2 hy2 W)
  have HS := Lib.hid (fun W => signed_calls (wsum 0 x 0 y).1 (wsum 0 x 0 y).2 (wsum_lt _ _ _ _) (decide (a < 0)) W)
  have HR := Lib.hid (show subF a b = if (decide (a < 0) != decide (b < 0)) = true then wsigned (wsum 0 x 0 y).1 (wsum 0 x 0 y).2 (decide (a < 0)) else a - b by unfold subF; rw [hx, hy])
  have HIN := Lib.hid (subF_in ha hb)
  rw [hx] at HA
  rw [hy] at HB
  obtain ⟨p, hp⟩ : ∃ p, (wsum 0 x 0 y).1 = p := ⟨_, rfl⟩
  obtain ⟨q, hq⟩ : ∃ p, (wsum 0 x 0 y).2 = p := ⟨_, rfl⟩
  rw [hp, hq] at HP HS HR
  clear hx hy hx2 hy2 hp hq ha hb
  rcases h1 : decide (a < 0) with _ | _ <;> rcases h2 : decide (b < 0) with _ | _
  all_goals
    have HR2 := Lib.hid HR.out
    rw [h1, h2] at HR2
    rw [h1] at HS
    have hr := HR2.out
    simp at hr
    have hin := HIN.out
    rw [hr] at hin
    rw [hr]
    have HRR := Lib.hid hr
    unfold I64 at hin
    clear hr HR HR2 HIN
    first
      | (have ew : IntKind.i64.wrap (a - b) = a - b := IntWalk.i64_in _ hin
         have HIN := Lib.hid hin
         clear hin
         go_enter Tryz.func92, Tryz.ntmps92
         go_wp2_with fail
         go_ret
         exact ⟨rfl, World.grownBy.refl _ _⟩)
      | (have HIN := Lib.hid hin
         clear hin
         go_enter Tryz.func92, Tryz.ntmps92
         go_wp2_with fail
         refine (HA.out _).mono ?_
         rintro e w1 ⟨rfl, rfl⟩
         go_wp2_with fail
         refine (HB.out _).mono ?_
         rintro e w1 ⟨rfl, rfl⟩
         go_wp2_with fail
         refine (HP.out _).mono ?_
         rintro e w2 ⟨rfl, g2⟩
         have G2 := Lib.hid g2
         clear g2
         go_wp2_with fail
         refine (HS.out _).mono ?_
         rintro e w3 ⟨rfl, g3⟩
         have G3 := Lib.hid (only_trans G2.out g3)
         clear g3
         go_wp2_with fail
         go_ret
         exact ⟨rfl, G3.out⟩)

set_option maxRecDepth 100000 in
set_option maxHeartbeats 1000000 in
theorem add_calls (a b : Int) (ha : I64 a) (hb : I64 b) (w : World) : Calls Tryz.prog 186 #[.int .i64 a, .int .i64 b] w fun e w' => e = .returned (.int .i64 (addF a b)) ∧ w.grownBy w' none := by
  have HA := Lib.hid (fun W => size_calls a ha W)
  have HB := Lib.hid (fun W => size_calls b hb W)
  obtain ⟨x, hx⟩ : ∃ x, a.natAbs = x := ⟨_, rfl⟩
  obtain ⟨y, hy⟩ : ∃ x, b.natAbs = x := ⟨_, rfl⟩
  have hx2 : x < 18446744073709551616 := by unfold I64 at ha; omega
  have hy2 : y < 18446744073709551616 := by unfold I64 at hb; omega
  have HP := Lib.hid (fun W => plus_calls 0 x 0 y hx2 hy2 W)
  have HS := Lib.hid (fun W => signed_calls (wsum 0 x 0 y).1 (wsum 0 x 0 y).2 (wsum_lt _ _ _ _) (decide (a < 0)) W)
  have HR := Lib.hid (show addF a b = if (decide (a < 0) == decide (b < 0)) = true then wsigned (wsum 0 x 0 y).1 (wsum 0 x 0 y).2 (decide (a < 0)) else a + b by unfold addF; rw [hx, hy])
  have HIN := Lib.hid (addF_in ha hb)
  rw [hx] at HA
  rw [hy] at HB
  obtain ⟨p, hp⟩ : ∃ p, (wsum 0 x 0 y).1 = p := ⟨_, rfl⟩
  obtain ⟨q, hq⟩ : ∃ p, (wsum 0 x 0 y).2 = p := ⟨_, rfl⟩
  rw [hp, hq] at HP HS HR
  clear hx hy hx2 hy2 hp hq ha hb
  rcases h1 : decide (a < 0) with _ | _ <;> rcases h2 : decide (b < 0) with _ | _
  all_goals
    have HR2 := Lib.hid HR.out
    rw [h1, h2] at HR2
    rw [h1] at HS
    have hr := HR2.out
    simp at hr
    have hin := HIN.out
    rw [hr] at hin
    rw [hr]
    have HRR := Lib.hid hr
    unfold I64 at hin
    clear hr HR HR2 HIN
    first
      | (have ew : IntKind.i64.wrap (a + b) = a + b := IntWalk.i64_in _ hin
         have HIN := Lib.hid hin
         clear hin
         go_enter Tryz.func186, Tryz.ntmps186
         go_wp2_with fail
         go_ret
         exact ⟨rfl, World.grownBy.refl _ _⟩)
      | (have HIN := Lib.hid hin
         clear hin
         go_enter Tryz.func186, Tryz.ntmps186
         go_wp2_with fail
         refine (HA.out _).mono ?_
         rintro e w1 ⟨rfl, rfl⟩
         go_wp2_with fail
         refine (HB.out _).mono ?_
         rintro e w1 ⟨rfl, rfl⟩
         go_wp2_with fail
         refine (HP.out _).mono ?_
         rintro e w2 ⟨rfl, g2⟩
         have G2 := Lib.hid g2
         clear g2
         go_wp2_with fail
         refine (HS.out _).mono ?_
         rintro e w3 ⟨rfl, g3⟩
         have G3 := Lib.hid (only_trans G2.out g3)
         clear g3
         go_wp2_with fail
         go_ret
         exact ⟨rfl, G3.out⟩)
end Go.Proofs.YtbilegkffooioaaGreatDoor
/-
  fix.Minus, fix.Long: how far two points are apart.
-/
namespace Go.Proofs.YtbilegkffooioaaGreatDoor
open Go.RowKit

/-- A square, of 128 bits. -/
def sqW (x : Int) : Nat × Nat := (x.natAbs * x.natAbs / 18446744073709551616, x.natAbs * x.natAbs % 18446744073709551616)
def addSq (u : Nat × Nat) (x : Int) : Nat × Nat := wsum u.1 u.2 (sqW x).1 (sqW x).2
theorem addSq_lt (u : Nat × Nat) (x : Int) : (addSq u x).2 < 18446744073709551616 := wsum_lt _ _ _ _
abbrev wz (u : Nat × Nat) : Array Value := #[.int .u64 (u.1 : Int), .int .u64 (u.2 : Int)]

theorem none_some {a b : World} {r : Option Nat} (h : a.grownBy b none) : a.grownBy b r := ⟨h.os, h.tape, h.output, h.size, fun k hk _ => h.block k hk (by simp)⟩
set_option maxRecDepth 100000 in
set_option maxHeartbeats 2000000 in
theorem sq_calls (x : Int) (hx : I64 x) (gu gd : Nat) (u : Nat × Nat) (hu : u.2 < 18446744073709551616) (W : World) (hb : Blk W gu 184 (wz u)) :
    Calls Tryz.prog 159 #[.int .i64 x, .int .i64 x, .pointer (some ⟨gu, 0, none⟩), .pointer (some ⟨gd, 0, none⟩)] W fun e w' => e = .returned (.int .i64 0) ∧ W.grownBy w' (some gu) ∧ Blk w' gu 184 (wz (addSq u x)) := by
  have HA := Lib.hid (fun W => size_calls x hx W)
  obtain ⟨y, hy⟩ : ∃ y, x.natAbs = y := ⟨_, rfl⟩
  have hy2 : y < 18446744073709551616 := by unfold I64 at hx; omega
  obtain ⟨p, hp⟩ : ∃ p, y * y / 18446744073709551616 = p := ⟨_, rfl⟩
  obtain ⟨q, hq⟩ : ∃ p, y * y % 18446744073709551616 = p := ⟨_, rfl⟩
  have hq2 : q < 18446744073709551616 := by rw [← hq]; exact Nat.mod_lt _ (by decide)
  have HP := Lib.hid (fun W => product_calls y y hy2 hy2 W)
  have HS := Lib.hid (fun W => plus_calls u.1 u.2 p q hu hq2 W)
  have e : addSq u x = wsum u.1 u.2 p q := by unfold addSq sqW; rw [hy, hp, hq]
  rw [e]
  rw [hy] at HA
  rw [hp, hq] at HP
  obtain ⟨a, b⟩ := u
  obtain ⟨⟨s, t⟩, hs⟩ : ∃ s, wsum a b p q = s := ⟨_, rfl⟩
  simp only at HS
  rw [hs] at HS ⊢
  have HB := Lib.hid hb
  clear hb e hs hy hy2 hp hq hq2 hu hx
  rcases h1 : decide (x < 0) with _ | _
  all_goals
    go_enter Tryz.func159, Tryz.ntmps159
    go_wp2_with fail
    refine (HA.out _).mono ?_
    rintro e w1 ⟨rfl, rfl⟩
    go_wp2_with fail
    refine (HA.out _).mono ?_
    rintro e w1 ⟨rfl, rfl⟩
    go_wp2_with fail
    refine (HP.out _).mono ?_
    rintro e w2 ⟨rfl, g2⟩
    have HB2 := Lib.hid ((HB.out.grown g2 (by simp)).alloc (.cells #[.int .u64 p, .int .u64 q] 184))
    have c0 := HB2.out.cell 0
    have c1 := HB2.out.cell 1
    have G2 := Lib.hid g2
    clear g2
    go_wp2_with fail
    refine (HS.out _).mono ?_
    rintro e w3 ⟨rfl, g3⟩
    have HB3 := Lib.hid (HB2.out.grown g3 (by simp))
    have d0 := HB3.out.cell 0
    have d1 := HB3.out.cell 1
    have f0 := HB3.out.free 0
    have f1 := HB3.out.free 1
    have G3 : Hid (W.grownBy w3 none) := Lib.hid ((G2.out.trans (World.grownBy_alloc _ _ none)).trans g3)
    clear g3 c0 c1
    go_wp2_with fail
    go_ret
    exact ⟨rfl, only_put (only_put (none_some G3.out) 0 _) 1 _, ((HB3.out.put 0 _).put 1 _).of_ rfl⟩

theorem Tryz.size35 : (Tryz.prog.info? 35).map (·.size) = some 3 := by kernel_rfl
theorem Tryz.size184 : (Tryz.prog.info? 184).map (·.size) = some 2 := by kernel_rfl
/-- The world in which axes begins. -/
def AxV (w : World) (c1 c2 : Array Value) : World := ((w.alloc (.cells c1 35)).alloc (.cells c2 35)).alloc (.cells #[.int .i64 0, .int .i64 0, .int .i64 0] 35)
theorem axV_blks {w W : World} {c1 c2 : Array Value} {r : Option Nat} (h : (AxV w c1 c2).grownBy W r) (hr : ∀ k, r = some k → k < w.heap.size) :
    Blk W w.heap.size 35 c1 ∧ Blk W (w.heap.size + 1) 35 c2 ∧ Blk W (w.heap.size + 1 + 1) 35 #[.int .i64 0, .int .i64 0, .int .i64 0] := by
  have e1 : (w.alloc (.cells c1 35)).heap.size = w.heap.size + 1 := by simp
  have e2 : ((w.alloc (.cells c1 35)).alloc (.cells c2 35)).heap.size = w.heap.size + 1 + 1 := by simp
  refine ⟨(((Blk.new w 35 c1).alloc _).alloc _).grown h (fun e => by have := hr _ e.symm; omega), ?_, ?_⟩
  · have := (Blk.new (w.alloc (.cells c1 35)) 35 c2).alloc (.cells #[.int .i64 0, .int .i64 0, .int .i64 0] 35)
    rw [e1] at this
    exact this.grown h (fun e => by have := hr _ e.symm; omega)
  · have := Blk.new ((w.alloc (.cells c1 35)).alloc (.cells c2 35)) 35 #[.int .i64 0, .int .i64 0, .int .i64 0]
    rw [e2] at this
    exact this.grown h (fun e => by have := hr _ e.symm; omega)
theorem axV_cells {w W : World} {x y z x' y' z' : Value} {r : Option Nat} (h : (AxV w #[x, y, z] #[x', y', z']).grownBy W r) (hr : ∀ k, r = some k → k < w.heap.size) :
    (W.cell? ⟨w.heap.size, 0, none⟩ = some x ∧ W.cell? ⟨w.heap.size, 1, none⟩ = some y ∧ W.cell? ⟨w.heap.size, 2, none⟩ = some z ∧
    W.cell? ⟨w.heap.size + 1, 0, none⟩ = some x' ∧ W.cell? ⟨w.heap.size + 1, 1, none⟩ = some y' ∧ W.cell? ⟨w.heap.size + 1, 2, none⟩ = some z') ∧
    W.cell? ⟨w.heap.size + 1 + 1, 0, none⟩ = some (.int .i64 0) ∧ W.cell? ⟨w.heap.size + 1 + 1, 1, none⟩ = some (.int .i64 0) ∧ W.cell? ⟨w.heap.size + 1 + 1, 2, none⟩ = some (.int .i64 0) ∧
    W.frozen? ⟨w.heap.size + 1 + 1, 0, none⟩ = false ∧ W.frozen? ⟨w.heap.size + 1 + 1, 1, none⟩ = false ∧ W.frozen? ⟨w.heap.size + 1 + 1, 2, none⟩ = false := by
  obtain ⟨h1, h2, h3⟩ := axV_blks h hr
  exact ⟨⟨h1.cell 0, h1.cell 1, h1.cell 2, h2.cell 0, h2.cell 1, h2.cell 2⟩, h3.cell 0, h3.cell 1, h3.cell 2, h3.free 0, h3.free 1, h3.free 2⟩
theorem axV_grown (w : World) (c1 c2 : Array Value) : w.grownBy (AxV w c1 c2) none := ((World.grownBy_alloc _ _ none).trans (World.grownBy_alloc _ _ none)).trans (World.grownBy_alloc _ _ none)
theorem set_lo {a b : World} (h : a.grownBy b none) {k : Nat} (hk : a.heap.size ≤ k) (i : Nat) (u : Value) : a.grownBy (b.setCell ⟨k, i, none⟩ u) none := by
  have := only_put (none_some (r := some k) h) i u
  exact ⟨this.os, this.tape, this.output, this.size, fun j hj _ => this.block j hj (by intro e; injection e with e; omega)⟩

set_option maxRecDepth 1000000 in
set_option maxHeartbeats 4000000 in
theorem axesSub_calls (x y z x' y' z' : Int) (h1 : I64 x) (h2 : I64 y) (h3 : I64 z) (h1' : I64 x') (h2' : I64 y') (h3' : I64 z') (w : World) :
    Calls Tryz.prog 91 #[.agg #[.int .i64 x, .int .i64 y, .int .i64 z], .agg #[.int .i64 x', .int .i64 y', .int .i64 z'], .func (.func 92) #[] #[]] w fun e w' =>
      e = .returned (.agg #[.int .i64 (subF x x'), .int .i64 (subF y y'), .int .i64 (subF z z')]) ∧ w.grownBy w' none := by
  have hV : (AxV w #[.int .i64 x, .int .i64 y, .int .i64 z] #[.int .i64 x', .int .i64 y', .int .i64 z']).grownBy (AxV w #[.int .i64 x, .int .i64 y, .int .i64 z] #[.int .i64 x', .int .i64 y', .int .i64 z']).drew none := ⟨rfl, rfl, rfl, Nat.le_refl _, fun _ _ _ => rfl⟩
  have HV0 := Lib.hid hV
  clear hV
  go_enter Tryz.func91, Tryz.ntmps91
  go_wp2_with fail
  have hc0 := (axV_cells HV0.out (by simp)).1
  unfold AxV at hc0
  have n1 : ¬ (w.heap.size = w.heap.size + 1 + 1) := by omega
  have n2 : ¬ (w.heap.size + 1 + 1 = w.heap.size) := by omega
  go_region_held3 (fun W => W.cell? ⟨w.heap.size, 0, none⟩ = some (.int .i64 x) ∧ W.cell? ⟨w.heap.size, 1, none⟩ = some (.int .i64 y) ∧ W.cell? ⟨w.heap.size, 2, none⟩ = some (.int .i64 z) ∧
    W.cell? ⟨w.heap.size + 1, 0, none⟩ = some (.int .i64 x') ∧ W.cell? ⟨w.heap.size + 1, 1, none⟩ = some (.int .i64 y') ∧ W.cell? ⟨w.heap.size + 1, 2, none⟩ = some (.int .i64 z')) (go_keep)
    (first
      | (go_at_call 92; have hV := HV2.out; refine (sub_calls z z' h3 h3' _).mono ?_; rintro e w3 ⟨rfl, hg⟩; have HV3 := Lib.hid (only_trans hV hg); clear hg hV; have hc3 := axV_cells HV3.out (by simp))
      | (go_at_call 92; have hV := HV1.out; refine (sub_calls y y' h2 h2' _).mono ?_; rintro e w2 ⟨rfl, hg⟩; have HV2 := Lib.hid (only_trans hV hg); clear hg hV; have hc2 := (axV_cells HV2.out (by simp)).1)
      | (go_at_call 92; refine (sub_calls x x' h1 h1' _).mono ?_; rintro e w1 ⟨rfl, hg⟩; have HV1 := Lib.hid (only_trans HV0.out hg); clear hg; have hc1 := (axV_cells HV1.out (by simp)).1))
  go_wp2
  have hb := (((axV_blks HV3.out (by simp)).2.2.put 0 (.int .i64 (subF x x'))).put 1 (.int .i64 (subF y y'))).put 2 (.int .i64 (subF z z'))
  refine bodyPost_ret (results_cell_row (cs := #[.int .i64 (subF x x'), .int .i64 (subF y y'), .int .i64 (subF z z')]) rfl _ _ (w.heap.size + 1 + 1) 35 (0, 0) _ rfl hb Tryz.underlying35 rfl Tryz.size35) rfl ?_
  have := (axV_grown w _ _).trans HV3.out
  exact ⟨rfl, set_lo (set_lo (set_lo this (by omega) 0 _) (by omega) 1 _) (by omega) 2 _⟩

theorem blk_other {w : World} {k g : Nat} {t : TypeId} {cs : Array Value} (h : Blk w k t cs) (i : Nat) (u : Value) (hne : k ≠ g) : Blk (w.setCell ⟨g, i, none⟩ u) k t cs :=
  (Below.heap_setCell w ⟨g, i, none⟩ u k hne).trans h
theorem set_lo' {a b : World} {r : Option Nat} (h : a.grownBy b r) {k : Nat} (hk : a.heap.size ≤ k) (i : Nat) (u : Value) : a.grownBy (b.setCell ⟨k, i, none⟩ u) r :=
  ⟨h.os, h.tape, h.output, Nat.le_trans h.size (only_put (World.grownBy.refl b (some k)) i u).size, fun j hj hn => (Below.heap_setCell b ⟨k, i, none⟩ u j (by simp; omega)).trans (h.block j hj hn)⟩

set_option maxRecDepth 1000000 in
set_option maxHeartbeats 4000000 in
theorem axesSq_calls (x y z : Int) (h1 : I64 x) (h2 : I64 y) (h3 : I64 z) (gu gd : Nat) (u : Nat × Nat) (hu : u.2 < 18446744073709551616) (w : World) (hb : Blk w gu 184 (wz u)) :
    Calls Tryz.prog 91 #[.agg #[.int .i64 x, .int .i64 y, .int .i64 z], .agg #[.int .i64 x, .int .i64 y, .int .i64 z], .func (.func 159) #[] #[.pointer (some ⟨gu, 0, none⟩), .pointer (some ⟨gd, 0, none⟩)]] w fun e w' =>
      (∃ v, e = .returned v) ∧ w.grownBy w' (some gu) ∧ Blk w' gu 184 (wz (addSq (addSq (addSq u x) y) z)) := by
  have hV : (AxV w #[.int .i64 x, .int .i64 y, .int .i64 z] #[.int .i64 x, .int .i64 y, .int .i64 z]).grownBy (AxV w #[.int .i64 x, .int .i64 y, .int .i64 z] #[.int .i64 x, .int .i64 y, .int .i64 z]).drew (some gu) := ⟨rfl, rfl, rfl, Nat.le_refl _, fun _ _ _ => rfl⟩
  have hlt : Hid (∀ k, some gu = some k → k < w.heap.size) := Lib.hid (fun k e => by injection e with e; have := hb.lt; omega)
  have HB0 : Hid (Blk (AxV w #[.int .i64 x, .int .i64 y, .int .i64 z] #[.int .i64 x, .int .i64 y, .int .i64 z]).drew gu 184 (wz u)) := Lib.hid ((hb.grown (axV_grown w _ _) (by simp)).grown ⟨rfl, rfl, rfl, Nat.le_refl _, fun _ _ _ => rfl⟩ (row := none) (by simp))
  have HV0 := Lib.hid hV
  have HW0 := Lib.hid hb
  clear hV hb
  go_enter Tryz.func91, Tryz.ntmps91
  go_wp2_with fail
  have hc0 := (axV_cells HV0.out hlt.out).1
  unfold AxV at hc0
  have n1 : ¬ (w.heap.size = w.heap.size + 1 + 1) := by omega
  have n2 : ¬ (w.heap.size + 1 + 1 = w.heap.size) := by omega
  go_region_held3 (fun W => W.cell? ⟨w.heap.size, 0, none⟩ = some (.int .i64 x) ∧ W.cell? ⟨w.heap.size, 1, none⟩ = some (.int .i64 y) ∧ W.cell? ⟨w.heap.size, 2, none⟩ = some (.int .i64 z) ∧
    W.cell? ⟨w.heap.size + 1, 0, none⟩ = some (.int .i64 x) ∧ W.cell? ⟨w.heap.size + 1, 1, none⟩ = some (.int .i64 y) ∧ W.cell? ⟨w.heap.size + 1, 2, none⟩ = some (.int .i64 z)) (go_keep)
    (first
      | (go_at_call 159; have hV := HV2.out; refine (sq_calls z h3 gu gd (addSq (addSq u x) y) (addSq_lt _ _) _ HB2.out).mono ?_; rintro e w3 ⟨rfl, hg, hb⟩; have HB3 := Lib.hid hb; have HV3 := Lib.hid (only_trans hV hg); clear hg hV hb; have hc3 := axV_cells HV3.out hlt.out)
      | (go_at_call 159; have hV := HV1.out; refine (sq_calls y h2 gu gd (addSq u x) (addSq_lt _ _) _ HB1.out).mono ?_; rintro e w2 ⟨rfl, hg, hb⟩; have HB2 := Lib.hid hb; have HV2 := Lib.hid (only_trans hV hg); clear hg hV hb; have hc2 := (axV_cells HV2.out hlt.out).1)
      | (go_at_call 159; refine (sq_calls x h1 gu gd u hu _ HB0.out).mono ?_; rintro e w1 ⟨rfl, hg, hb⟩; have HB1 := Lib.hid hb; have HV1 := Lib.hid (only_trans HV0.out hg); clear hg hb; have hc1 := (axV_cells HV1.out hlt.out).1))
  go_wp2
  have hb := (((axV_blks HV3.out hlt.out).2.2.put 0 (.int .i64 0)).put 1 (.int .i64 0)).put 2 (.int .i64 0)
  refine bodyPost_ret (results_cell_row (cs := #[.int .i64 0, .int .i64 0, .int .i64 0]) rfl _ _ (w.heap.size + 1 + 1) 35 (0, 0) _ rfl hb Tryz.underlying35 rfl Tryz.size35) rfl ?_
  have h := (none_some (axV_grown w _ _)).trans HV3.out
  have hne : gu ≠ w.heap.size + 1 + 1 := by have := hlt.out gu rfl; omega
  exact ⟨⟨_, rfl⟩, set_lo' (set_lo' (set_lo' h (by omega) 0 _) (by omega) 1 _) (by omega) 2 _, blk_other (blk_other (blk_other HB3.out 0 _ hne) 1 _ hne) 2 _ hne⟩

/-- **Minus.** -/
theorem minus_calls (x y z x' y' z' : Int) (h1 : I64 x) (h2 : I64 y) (h3 : I64 z) (h1' : I64 x') (h2' : I64 y') (h3' : I64 z') (w : World) :
    Calls Tryz.prog 37 #[.agg #[.int .i64 x, .int .i64 y, .int .i64 z], .agg #[.int .i64 x', .int .i64 y', .int .i64 z']] w fun e w' =>
      e = .returned (.agg #[.int .i64 (subF x x'), .int .i64 (subF y y'), .int .i64 (subF z z')]) ∧ w.grownBy w' none := by
  have HC := Lib.hid (fun W => axesSub_calls x y z x' y' z' h1 h2 h3 h1' h2' h3' W)
  have HV0 := Lib.hid (World.grownBy.refl (AxV w #[.int .i64 x, .int .i64 y, .int .i64 z] #[.int .i64 x', .int .i64 y', .int .i64 z']) none)
  go_enter Tryz.func37, Tryz.ntmps37
  go_wp2_with fail
  refine (HC.out _).mono ?_
  rintro e w1 ⟨rfl, hg⟩
  have HV1 : Hid ((AxV w #[.int .i64 x, .int .i64 y, .int .i64 z] #[.int .i64 x', .int .i64 y', .int .i64 z']).grownBy w1 none) := Lib.hid hg
  clear hg
  obtain ⟨_, d0, d1, d2, f0, f1, f2⟩ := axV_cells HV1.out (by simp)
  go_wp2_with fail
  have hb := (((axV_blks HV1.out (by simp)).2.2.put 0 (.int .i64 (subF x x'))).put 1 (.int .i64 (subF y y'))).put 2 (.int .i64 (subF z z'))
  refine bodyPost_ret (results_cell_row (cs := #[.int .i64 (subF x x'), .int .i64 (subF y y'), .int .i64 (subF z z')]) rfl _ _ (w.heap.size + 1 + 1) 35 (0, 0) _ rfl hb Tryz.underlying35 rfl Tryz.size35) rfl ?_
  have := (axV_grown w _ _).trans HV1.out
  exact ⟨rfl, set_lo (set_lo (set_lo this (by omega) 0 _) (by omega) 1 _) (by omega) 2 _⟩

theorem results_cells_two {P : Program} {fn : Func} {p q : Tmp} {ty uy : TypeId} (h : fn.results = #[.cell p ty, .cell q uy]) (tmps : Array Value) (w : World) (g g2 : Nat) (t t2 : TypeId) (cs cs2 : Array Value) (fr fr2 : Nat × Nat) (d d2 : TypeDesc)
    (hp : tmps.getD p undef = .pointer (some ⟨g, 0, none⟩)) (hg : w.heap[g]? = some (.cells cs t fr)) (hu : P.underlying ty = some d) (hd : (match d with | .struct _ | .array _ _ => true | _ => false) = true) (hi : (P.info? ty).map (·.size) = some cs.size)
    (hq : tmps.getD q undef = .pointer (some ⟨g2, 0, none⟩)) (hg2 : w.heap[g2]? = some (.cells cs2 t2 fr2)) (hu2 : P.underlying uy = some d2) (hd2 : (match d2 with | .struct _ | .array _ _ => true | _ => false) = true) (hi2 : (P.info? uy).map (·.size) = some cs2.size) :
    (results fn tmps).run P w = .ok (.tuple #[.agg cs, .agg cs2]) w := by
  have hp' : tmps[p]?.getD undef = .pointer (some ⟨g, 0, none⟩) := by simpa using hp
  have hq' : tmps[q]?.getD undef = .pointer (some ⟨g2, 0, none⟩) := by simpa using hq
  simp [results, h, hp', hq', asAddr, run_loadVar_row w g t ty cs fr d hg hu hd hi, run_loadVar_row w g2 t2 uy cs2 fr2 d2 hg2 hu2 hd2 hi2]
theorem results_cell_and_tmp {P : Program} {fn : Func} {p u : Tmp} {ty : TypeId} (h : fn.results = #[.cell p ty, .tmp u]) (tmps : Array Value) (w : World) (g : Nat) (t : TypeId) (cs : Array Value) (fr : Nat × Nat) (d : TypeDesc)
    (hp : tmps.getD p undef = .pointer (some ⟨g, 0, none⟩)) (hg : w.heap[g]? = some (.cells cs t fr)) (hu : P.underlying ty = some d) (hd : (match d with | .struct _ | .array _ _ => true | _ => false) = true) (hi : (P.info? ty).map (·.size) = some cs.size) :
    (results fn tmps).run P w = .ok (.tuple #[.agg cs, tmps.getD u undef]) w := by
  have hp' : tmps[p]?.getD undef = .pointer (some ⟨g, 0, none⟩) := by simpa using hp
  simp [results, h, hp', asAddr, run_loadVar_row w g t ty cs fr d hg hu hd hi]

/-- The world in which products begins. -/
def PrV (w : World) (c1 c2 : Array Value) : World := (((w.alloc (.cells c1 35)).alloc (.cells c2 35)).alloc (.cells #[.int .u64 0, .int .u64 0] 184)).alloc (.cells #[.int .u64 0, .int .u64 0] 184)
theorem prV_grown (w : World) (c1 c2 : Array Value) : w.grownBy (PrV w c1 c2) none := ((((World.grownBy_alloc _ _ none).trans (World.grownBy_alloc _ _ none)).trans (World.grownBy_alloc _ _ none))).trans (World.grownBy_alloc _ _ none)
theorem prV_blks (w : World) (c1 c2 : Array Value) : Blk (PrV w c1 c2) (w.heap.size + 1 + 1) 184 #[.int .u64 0, .int .u64 0] ∧ Blk (PrV w c1 c2) (w.heap.size + 1 + 1 + 1) 184 #[.int .u64 0, .int .u64 0] := by
  have e2 : ((w.alloc (.cells c1 35)).alloc (.cells c2 35)).heap.size = w.heap.size + 1 + 1 := by simp
  have e3 : (((w.alloc (.cells c1 35)).alloc (.cells c2 35)).alloc (.cells #[.int .u64 0, .int .u64 0] 184)).heap.size = w.heap.size + 1 + 1 + 1 := by simp
  have h1 := (Blk.new ((w.alloc (.cells c1 35)).alloc (.cells c2 35)) 184 #[.int .u64 0, .int .u64 0]).alloc (.cells #[.int .u64 0, .int .u64 0] 184)
  have h2 := Blk.new (((w.alloc (.cells c1 35)).alloc (.cells c2 35)).alloc (.cells #[.int .u64 0, .int .u64 0] 184)) 184 #[.int .u64 0, .int .u64 0]
  rw [e2] at h1
  rw [e3] at h2
  exact ⟨h1, h2⟩

set_option maxRecDepth 1000000 in
set_option maxHeartbeats 4000000 in
/-- The sums of a point's squares. -/
theorem products_calls (x y z : Int) (h1 : I64 x) (h2 : I64 y) (h3 : I64 z) (w : World) :
    Calls Tryz.prog 88 #[.agg #[.int .i64 x, .int .i64 y, .int .i64 z], .agg #[.int .i64 x, .int .i64 y, .int .i64 z]] w fun e w' =>
      e = .returned (.tuple #[.agg (wz (addSq (addSq (addSq (0, 0) x) y) z)), .agg #[.int .u64 0, .int .u64 0]]) ∧ w.grownBy w' none := by
  have HC := Lib.hid (fun W (hb : Blk W (w.heap.size + 1 + 1) 184 (wz (0, 0))) => axesSq_calls x y z h1 h2 h3 (w.heap.size + 1 + 1) (w.heap.size + 1 + 1 + 1) (0, 0) (by decide) W hb)
  obtain ⟨⟨s, t⟩, hs⟩ : ∃ s, addSq (addSq (addSq (0, 0) x) y) z = s := ⟨_, rfl⟩
  rw [hs] at HC ⊢
  have HP := Lib.hid (prV_blks w #[.int .i64 x, .int .i64 y, .int .i64 z] #[.int .i64 x, .int .i64 y, .int .i64 z])
  go_enter Tryz.func88, Tryz.ntmps88
  go_wp2_with fail
  refine (HC.out _ HP.out.1).mono ?_
  rintro e w1 ⟨⟨v, rfl⟩, hg, hb⟩
  have hd := HP.out.2.grown hg (by intro e; injection e with e; omega)
  have hW : w.grownBy w1 none := grown_over (prV_grown w _ _) hg (by omega)
  have c0 := hb.cell 0
  have c1 := hb.cell 1
  have c2 := hd.cell 0
  have c3 := hd.cell 1
  have f0 := hb.free 0
  have f1 := hb.free 1
  have f2 := hd.free 0
  have f3 := hd.free 1
  have HB := Lib.hid hb
  have HD := Lib.hid hd
  have HW := Lib.hid hW
  clear hg hb hd hW
  go_wp2_with fail
  have hne : w.heap.size + 1 + 1 ≠ w.heap.size + 1 + 1 + 1 := by omega
  have hb := blk_other (blk_other ((HB.out.put 0 (.int .u64 s)).put 1 (.int .u64 t)) 0 (.int .u64 0) hne) 1 (.int .u64 0) hne
  have hd := ((blk_other (blk_other HD.out 0 (.int .u64 s) hne.symm) 1 (.int .u64 t) hne.symm).put 0 (.int .u64 0)).put 1 (.int .u64 0)
  have hbA := (HB.out.put 0 (.int .u64 s)).put 1 (.int .u64 t)
  have q0 := (hbA.cell 0).trans (show _ = some (.int .u64 s) from rfl)
  have q1 := (hbA.cell 1).trans (show _ = some (.int .u64 t) from rfl)
  have q2 := (hb.cell 0).trans (show _ = some (.int .u64 s) from rfl)
  have q3 := (hb.cell 1).trans (show _ = some (.int .u64 t) from rfl)
  have q4 := (hd.cell 0).trans (show _ = some (.int .u64 0) from rfl)
  have q5 := (hd.cell 1).trans (show _ = some (.int .u64 0) from rfl)
  have HB2 := Lib.hid hb
  have HD2 := Lib.hid hd
  clear hbA hb hd
  go_region_held3 (fun W => W.cell? ⟨w.heap.size + 1 + 1, 0, none⟩ = some (.int .u64 s) ∧ W.cell? ⟨w.heap.size + 1 + 1, 1, none⟩ = some (.int .u64 t) ∧ W.cell? ⟨w.heap.size + 1 + 1 + 1, 0, none⟩ = some (.int .u64 0) ∧ W.cell? ⟨w.heap.size + 1 + 1 + 1, 1, none⟩ = some (.int .u64 0)) (go_keep) (fail)
  go_wp2
  refine bodyPost_ret (results_cells_two (cs := #[.int .u64 s, .int .u64 t]) (cs2 := #[.int .u64 0, .int .u64 0]) rfl _ _ (w.heap.size + 1 + 1) (w.heap.size + 1 + 1 + 1) 184 184 (fr := (0, 0)) (fr2 := (0, 0)) _ _ rfl HB2.out Tryz.underlying184 rfl Tryz.size184 rfl HD2.out Tryz.underlying184 rfl Tryz.size184) rfl ?_
  refine ⟨rfl, grown_drawn ?_ 1⟩
  exact set_lo (set_lo (set_lo (set_lo HW.out (by omega) 0 _) (by omega) 1 _) (by omega) 0 _) (by omega) 1 _

theorem rootN_lt (V : Nat) : ∀ k n, rootN V k n + 1 ≤ n + 2 ^ k
  | 0, n => by simp [rootN]
  | k + 1, n => by
    rw [rootN, Nat.pow_succ]
    split
    · have := rootN_lt V k (n + 2 ^ k); omega
    · have := rootN_lt V k n; have := Nat.two_pow_pos k; omega
/-- A point's length. -/
def longF (x y z : Int) : Int := wsigned 0 (rootN ((addSq (addSq (addSq (0, 0) x) y) z).1 * 18446744073709551616 + (addSq (addSq (addSq (0, 0) x) y) z).2) 64 0) false
theorem longF_nonneg (x y z : Int) : 0 ≤ longF x y z := by
  unfold longF wsigned
  rw [if_neg (by simp)]
  split <;> omega

set_option maxRecDepth 1000000 in
set_option maxHeartbeats 4000000 in
/-- **Long.** -/
theorem long_calls (x y z : Int) (h1 : I64 x) (h2 : I64 y) (h3 : I64 z) (w : World) :
    Calls Tryz.prog 36 #[.agg #[.int .i64 x, .int .i64 y, .int .i64 z]] w fun e w' => e = .returned (.int .i64 (longF x y z)) ∧ w.grownBy w' none := by
  have HC := Lib.hid (fun W => products_calls x y z h1 h2 h3 W)
  unfold longF
  have hlt := addSq_lt (addSq (addSq (0, 0) x) y) z
  obtain ⟨⟨s, t⟩, hs⟩ : ∃ s, addSq (addSq (addSq (0, 0) x) y) z = s := ⟨_, rfl⟩
  rw [hs] at HC hlt ⊢
  have HR := Lib.hid (fun W => root_calls s t hlt W)
  have hr := rootN_lt (s * 18446744073709551616 + t) 64 0
  simp only
  obtain ⟨r, hr2⟩ : ∃ r, rootN (s * 18446744073709551616 + t) 64 0 = r := ⟨_, rfl⟩
  rw [hr2] at HR hr ⊢
  have HS := Lib.hid (fun W => signed_calls 0 r (by omega) false W)
  obtain ⟨v, hv⟩ : ∃ v, wsigned 0 r false = v := ⟨_, rfl⟩
  rw [hv] at HS ⊢
  clear hs hlt hr hr2 hv h1 h2 h3
  go_enter Tryz.func36, Tryz.ntmps36
  go_wp2_with fail
  refine (HC.out _).mono ?_
  rintro e w1 ⟨rfl, hg⟩
  have G1 := Lib.hid ((World.grownBy_alloc _ _ none).trans hg)
  clear hg
  go_wp2_with fail
  refine (HR.out _).mono ?_
  rintro e w2 ⟨rfl, hg⟩
  have G2 := Lib.hid (((G1.out.trans (World.grownBy_alloc _ _ none)).trans (World.grownBy_alloc _ _ none)).trans hg)
  clear hg
  go_wp2_with fail
  refine (HS.out _).mono ?_
  rintro e w3 ⟨rfl, hg⟩
  have G3 := Lib.hid (G2.out.trans hg)
  clear hg
  go_wp2_with fail
  go_ret
  exact ⟨rfl, G3.out⟩

/-- How far a point is from another one. -/
def farF (a b : Int × Int × Int) : Int := longF (subF a.1 b.1) (subF a.2.1 b.2.1) (subF a.2.2 b.2.2)
theorem farF_nonneg (a b : Int × Int × Int) : 0 ≤ farF a b := longF_nonneg _ _ _
end Go.Proofs.YtbilegkffooioaaGreatDoor
/-
  view.write's helpers: each of nothing, each row's number, find.
-/
namespace Go.Proofs.YtbilegkffooioaaGreatDoor
open Go.RowKit

set_option maxHeartbeats 2000000 in
theorem each0P_calls (A : Option Addr) (c : Nat) (fv : Value) (w : World) : Calls Tryz.prog 29 #[.slice A 0 c, fv] w fun e w' => e = .returned (.slice none 0 0) ∧ w.grownBy w' none := by
  go_enter Tryz.func29, Tryz.ntmps29
  go_wp2
  refine wp_loop_rounds 1 ?_
  rw [rounds_succ]
  go_wp2
  go_ret
  exact ⟨rfl, World.grownBy.refl _ _⟩
set_option maxHeartbeats 2000000 in
theorem each0S_calls (A : Option Addr) (c : Nat) (fv : Value) (w : World) : Calls Tryz.prog 31 #[.slice A 0 c, fv] w fun e w' => e = .returned (.slice none 0 0) ∧ w.grownBy w' none := by
  go_enter Tryz.func31, Tryz.ntmps31
  go_wp2
  refine wp_loop_rounds 1 ?_
  rw [rounds_succ]
  go_wp2
  go_ret
  exact ⟨rfl, World.grownBy.refl _ _⟩
set_option maxHeartbeats 2000000 in
set_option maxRecDepth 100000 in
theorem cloneRows_calls (c : Nat) (w : World) : Calls Tryz.prog 99 #[.slice none 0 c] w fun e w' => e = .returned (.slice none 0 0) ∧ w.grownBy w' none := by
  have he := fun W => eql_nil_slice Tryz.prog W 85 89 none 0 c Tryz.underlying85
  go_enter Tryz.func99, Tryz.ntmps99
  go_wp2
  go_ret
  exact ⟨rfl, World.grownBy.refl _ _⟩
set_option maxHeartbeats 2000000 in
theorem rowId_calls (id : Int) (v : Value) (w : World) (_ : v.oneCell' = true) : Calls Tryz.prog 100 #[.agg #[.int .i64 id, v]] w fun e w' => e = .returned (.int .i64 id) ∧ w.grownBy w' none := by
  go_enter Tryz.func100, Tryz.ntmps100
  go_wp2
  go_ret
  exact ⟨rfl, World.grownBy_alloc _ _ none⟩
set_option maxHeartbeats 2000000 in
theorem isRow_calls (bi : Nat) (id : Int) (r : Rv) (W : World) (h : W.cell? ⟨bi, 0, none⟩ = some (.int .i64 id)) :
    Calls Tryz.prog 177 #[.agg r.cl.toArray, .pointer (some ⟨bi, 0, none⟩)] W fun e w' => e = .returned (.bool (r.id == id)) ∧ W.grownBy w' none := by
  unfold Rv.cl
  obtain ⟨b, hb⟩ : ∃ b, (r.id == id) = b := ⟨_, rfl⟩
  rw [hb]
  have h2 := World.block_lt_of_cell? W _ h
  rcases b with _ | _
  all_goals
    go_enter Tryz.func177, Tryz.ntmps177
    go_wp2
    go_ret
    exact ⟨by simp, World.grownBy_alloc _ _ none⟩

theorem rg_int (w : World) (x : Int) (t : TypeId) : Rg 1 (fun x : Int => [Value.int .i64 x]) (w.alloc (.cells #[.int .i64 x] t)) (w.heap.size + 1) (some ⟨w.heap.size, 0, none⟩) 1 [x] := by
  refine ⟨rfl, fun _ => ⟨w.heap.size, 0, rfl, by omega, fun j u hu => ?_⟩⟩
  rw [Nat.zero_add]
  have e1 := cell_of_row _ _ j #[.int .i64 x] t (0, 0) (heap_alloc_new w (.cells #[.int .i64 x] t))
  rw [e1]
  simpa using hu
def icl (x : Int) : List Value := [.int .i64 x]
theorem icl_len (x : Int) : (icl x).length = 1 := rfl
theorem icl_one (l : List Int) : ∀ u ∈ l.flatMap icl, u.oneCell' = true := by
  intro u hu
  obtain ⟨c, _, hc⟩ := List.mem_flatMap.1 hu
  simp [icl] at hc
  subst hc; rfl
theorem Tryz.info3 : (Tryz.prog.info? 3).map (fun i => (i.zero, i.size, i.bytes)) = some (some (.int .i64 0), 1, 8) := by kernel_rfl

set_option maxHeartbeats 8000000 in
set_option maxRecDepth 1000000 in
/-- Each row's number. -/
theorem eachId_calls (n c : Nat) (A : Option Addr) (vs : List Rv) (hn : n ≤ 1000000) (w : World) (hr : Rg 2 Rv.cl w w.heap.size A n vs) :
    Calls Tryz.prog 98 #[.slice A n c, .func (.func 100) #[] #[]] w fun e w' => ∃ A' c', e = .returned (.slice A' n c') ∧ w.grownBy w' none ∧ w'.ownsRow w.heap.size 3 1 (.slice A' n c') n ((vs.map Rv.id).flatMap icl) := by
  have HR := Lib.hid hr
  clear hr
  go_enter Tryz.func98, Tryz.ntmps98
  go_wp2_with fail
  go_loopg [4, 9] n (fun kx s4 s9 wr => ∃ (k : Nat) (A' : Option Addr) (c' : Nat), s4 = .slice A' k c' ∧ s9 = .int .i64 k ∧ k ≤ n ∧ n - k ≤ kx ∧ Hid (w.grownBy wr none) ∧ Hid (wr.ownsRow w.heap.size 3 1 (.slice A' k c') k (((vs.take k).map Rv.id).flatMap icl)))
  case atStart => exact ⟨0, none, 0, rfl, rfl, by omega, by omega, World.grownBy.refl w none, World.ownsRow_nil w _ 3 1⟩
  case round =>
    obtain ⟨k, A', c', rfl, rfl, hk, hkx, HG, HO⟩ := hrel
    by_cases hlt : k < n
    · obtain ⟨b, off, v, rfl, hb, hx, hr⟩ := (HR.out.grown HG.out (Nat.le_refl _) (by simp)).at_ Rv.cl_len hlt
      have HX := Lib.hid hx
      obtain ⟨c0, c1⟩ := row_cells hr
      clear hr hb hx
      have hbk : (k : Int) < (n : Int) := by omega
      go_wp2_with fail
      refine (rowId_calls v.id _ _ rfl).mono ?_
      rintro _ w2 ⟨rfl, hg2⟩
      have HG2 := Lib.hid ((World.grownBy_alloc wr _ none).trans hg2)
      clear hg2
      go_wp2_with (at_builtin; refine wpList_append_rg rfl (.tmp 13) (.tmp 17) 192 rfl w.heap.size 3 (.int .i64 0) 1 8 icl_len Tryz.underlying192 Tryz.info3 rfl (by decide) (.slice A' k c') k ((vs.take k).map Rv.id) rfl (own_kept HO.out (HG2.out.trans (World.grownBy_alloc _ _ none))) _ _ 1 1 [v.id] rfl (rg_int _ _ _) (icl_one _) (k + 1) rfl (by simp only [maxLen]; omega) (by omega) (((HG.out.trans HG2.out).trans (World.grownBy_alloc _ _ none)).size) ?_; intro A2 c2 w4 hown hgrow hat; have H1 := Lib.hid hown; have H2 := Lib.hid hgrow; clear hown hgrow hat)
      have HW : Hid (w.grownBy w4 none) := Lib.hid (grown_own ((HG.out.trans HG2.out).trans (World.grownBy_alloc _ _ none)) H2.out (fun j hj => (HO.out.lt j hj).1))
      have HE : Hid ((vs.take (k + 1)).map Rv.id = (vs.take k).map Rv.id ++ [v.id]) := Lib.hid (by rw [List.take_add_one, HX.out]; simp)
      go_roundg (n - (k + 1))
      case measure => omega
      case rel =>
        refine ⟨k + 1, A2, c2, rfl, by go_num, by omega, by omega, HW, ?_⟩
        rw [HE.out]
        exact H1
    · obtain rfl : k = n := by omega
      go_wp2
      go_ret
      refine ⟨_, _, rfl, HG.out, ?_⟩
      have := HO.out
      rwa [List.take_of_length_le (by rw [HR.out.1]; exact Nat.le_refl _)] at this

set_option maxHeartbeats 2000000 in
set_option maxRecDepth 100000 in
theorem index0R_calls (A : Option Addr) (c : Nat) (fv : Value) (w : World) : Calls Tryz.prog 176 #[.slice A 0 c, fv] w fun e w' => e = .returned (.int .i64 (-1)) ∧ w.grownBy w' none := by
  go_enter Tryz.func176, Tryz.ntmps176
  go_wp2
  refine wp_loop_rounds 1 ?_
  rw [rounds_succ]
  go_wp2
  go_ret
  exact ⟨rfl, World.grownBy.refl _ _⟩
theorem indexR_calls (n c bi k : Nat) (A : Option Addr) (id : Int) (vs : List Rv) (hn : n ≤ 1000000) (w : World) (h : Rg 2 Rv.cl w w.heap.size A n vs) (hbi : w.cell? ⟨bi, 0, none⟩ = some (.int .i64 id)) (hk : k < n) (hid : (vs[k]!).id = id) (hne : ∀ j, j < k → (vs[j]!).id ≠ id) :
    Calls Tryz.prog 176 #[.slice A n c, .func (.func 177) #[] #[.pointer (some ⟨bi, 0, none⟩)]] w fun e w' => e = .returned (.int .i64 k) ∧ w.grownBy w' none := by
  obtain ⟨b, off, rfl, hb, hr⟩ := h.2 (by omega)
  have hlen := h.1
  refine (AnyQ.slices_IndexFunc (P := Tryz.prog) (ρ := Tryz.indexRow_ren) Tryz.indexRow 2 Tryz.isAgg89 Tryz.sizeOf89 Rv.cl Rv.cl_len (fun r => r.id == id) 177 #[.pointer (some ⟨bi, 0, none⟩)] (enters_of Tryz.func177 (by kernel_rfl) rfl) b off n c vs w ?_ (by omega) (by omega) (by omega) ?_).mono ?_
  · intro W x hW
    refine (isRow_calls bi id x W ?_).mono ?_
    · rw [hW.cell (p := ⟨bi, 0, none⟩) (World.block_lt_of_cell? w _ hbi)]
      exact hbi
    · rintro e w' ⟨rfl, hg⟩
      exact ⟨rfl, hW.trans ⟨hg.os, hg.tape, hg.output, hg.size, fun k hk => hg.block k (Nat.lt_of_lt_of_le hk hW.size) (by simp)⟩⟩
  · intro j hj i v hv
    have hx : vs[j]? = some vs[j]! := by simp [hj]
    have := hr (j * 2 + i) v (flat_at Rv.cl_len vs j _ hx i v hv)
    rw [← Nat.add_assoc] at this
    exact this
  · rintro e w' ⟨rfl, hb'⟩
    refine ⟨?_, grown_below hb'⟩
    rw [Lib.idxBy_hit (fun _ y => y.id == id) vs n k default hk (by omega) (by simpa using hid) (fun j hj => by simpa using hne j hj)]

/-- The world in which find begins. -/
def FdV (w : World) (f fl most id : Int) : World := ((w.alloc (.cells #[.int .i64 f, .int .i64 fl, .int .i64 most] 83)).alloc (.cells #[.int .i64 id] 3)).alloc (.cells #[.int .i64 0, .slice none 0 0] 89)
theorem fdV_grown (w : World) (f fl most id : Int) : w.grownBy (FdV w f fl most id) none := ((World.grownBy_alloc _ _ none).trans (World.grownBy_alloc _ _ none)).trans (World.grownBy_alloc _ _ none)
theorem fdV_blks {w W : World} {f fl most id : Int} (hg : (FdV w f fl most id).grownBy W none) : Blk W w.heap.size 83 #[.int .i64 f, .int .i64 fl, .int .i64 most] ∧ Blk W (w.heap.size + 1) 3 #[.int .i64 id] ∧ Blk W (w.heap.size + 1 + 1) 89 #[.int .i64 0, .slice none 0 0] := by
  have e1 : (w.alloc (.cells #[.int .i64 f, .int .i64 fl, .int .i64 most] 83)).heap.size = w.heap.size + 1 := by simp
  have e2 : ((w.alloc (.cells #[.int .i64 f, .int .i64 fl, .int .i64 most] 83)).alloc (.cells #[.int .i64 id] 3)).heap.size = w.heap.size + 1 + 1 := by simp
  have h1 := ((Blk.new w 83 #[.int .i64 f, .int .i64 fl, .int .i64 most]).alloc (.cells #[.int .i64 id] 3)).alloc (.cells #[.int .i64 0, .slice none 0 0] 89)
  have h2 := (Blk.new (w.alloc (.cells #[.int .i64 f, .int .i64 fl, .int .i64 most] 83)) 3 #[.int .i64 id]).alloc (.cells #[.int .i64 0, .slice none 0 0] 89)
  have h3 := Blk.new ((w.alloc (.cells #[.int .i64 f, .int .i64 fl, .int .i64 most] 83)).alloc (.cells #[.int .i64 id] 3)) 89 #[.int .i64 0, .slice none 0 0]
  rw [e1] at h2
  rw [e2] at h3
  exact ⟨h1.grown hg (by simp), h2.grown hg (by simp), h3.grown hg (by simp)⟩

set_option maxHeartbeats 4000000 in
set_option maxRecDepth 1000000 in
/-- **find**, where it is. -/
theorem findHit_calls (f fl most : Int) (n c k : Nat) (A : Option Addr) (vs : List Rv) (hn : n ≤ 1000000) (w : World) (hr : Rg 2 Rv.cl w w.heap.size A n vs) (v : Rv) (hv : vs[k]? = some v) (hne : ∀ j, j < k → (vs[j]!).id ≠ v.id) :
    Calls Tryz.prog 103 #[.agg #[.int .i64 f, .int .i64 fl, .int .i64 most], .slice A n c, .int .i64 v.id] w fun e w' => e = .returned (.tuple #[.agg #[.int .i64 v.id, .slice v.A v.fields.length v.cap], .bool true]) ∧ w.grownBy w' none := by
  have hkn : k < n := by have := (List.getElem?_eq_some_iff.1 hv).1; have := hr.1; omega
  have hI : Hid (Calls Tryz.prog 176 #[.slice A n c, .func (.func 177) #[] #[.pointer (some ⟨w.heap.size + 1, 0, none⟩)]] (FdV w f fl most v.id) fun e w' => e = .returned (.int .i64 k) ∧ (FdV w f fl most v.id).grownBy w' none) :=
    Lib.hid (indexR_calls n c (w.heap.size + 1) k A v.id vs hn _ ((hr.grown (fdV_grown w f fl most v.id) (Nat.le_refl _) (by simp)).more (fdV_grown w f fl most v.id).size) ((fdV_blks (World.grownBy.refl _ none)).2.1.cell 0) hkn (by simp [hv]) hne)
  obtain ⟨b, off, v', hA, hb, hx, hc⟩ := hr.at_ Rv.cl_len hkn
  rw [hv] at hx
  injection hx with hx
  subst hx hA
  have HC := Lib.hid hc
  have hbk : (k : Int) < (n : Int) := by omega
  clear hr hv hc hne
  go_enter Tryz.func103, Tryz.ntmps103
  go_wp2_with fail
  refine hI.out.mono ?_
  rintro e w1 ⟨rfl, hg⟩
  obtain ⟨h1, h2, h3⟩ := fdV_blks hg
  have HG := Lib.hid ((fdV_grown w f fl most v.id).trans hg)
  have hc2 : w1.rangeAt b (off + k * 2) v.cl := fun j u hu => grown_at HG.out _ _ _ (HC.out j u hu) (World.block_lt_of_cell? w _ (HC.out j u hu)) (by simp)
  obtain ⟨c0, c1⟩ := row_cells hc2
  have d0 := h3.cell 0
  have d1 := h3.cell 1
  have f0 := h3.free 0
  have f1 := h3.free 1
  have H3 := Lib.hid h3
  clear hg h1 h2 h3 hc2 hI
  go_wp2_with fail
  have hb6 := (H3.out.put 0 (.int .i64 v.id)).put 1 (.slice v.A v.fields.length v.cap)
  refine bodyPost_ret (results_cell_and_tmp (cs := #[.int .i64 v.id, .slice v.A v.fields.length v.cap]) rfl _ _ (w.heap.size + 1 + 1) 89 (fr := (0, 0)) _ rfl hb6 Tryz.underlying89 rfl Tryz.size89) rfl ?_
  have hW := set_lo (set_lo HG.out (show w.heap.size ≤ w.heap.size + 1 + 1 by omega) 0 (.int .i64 v.id)) (show w.heap.size ≤ w.heap.size + 1 + 1 by omega) 1 (.slice v.A v.fields.length v.cap)
  exact ⟨rfl, hW⟩

/-- Noughts. -/
def zeros (n : Nat) : List Int := List.replicate n 0

theorem Tryz.info2 : (Tryz.prog.info? 2).map (fun i => (i.zero, i.size, i.bytes)) = some (some (.int .i64 0), 1, 8) := by kernel_rfl
set_option maxHeartbeats 4000000 in
set_option maxRecDepth 1000000 in
/-- **find**, where there is nothing. -/
theorem findNone14_calls (fl most id : Int) (w : World) :
    Calls Tryz.prog 103 #[.agg #[.int .i64 14, .int .i64 fl, .int .i64 most], .slice none 0 0, .int .i64 id] w fun e w' => ∃ g, e = .returned (.tuple #[.agg #[.int .i64 id, .slice (some ⟨g, 0, none⟩) 14 14], .bool false]) ∧ w.grownBy w' none ∧ w.heap.size ≤ g ∧ g < w'.heap.size ∧
      Blk w' g 2 (ints (zeros 14)).toArray := by
  have HI := Lib.hid (index0R_calls none 0 (.func (.func 177) #[] #[.pointer (some ⟨w.heap.size + 1, 0, none⟩)]) (FdV w 14 fl most id))
  have hmk : ∀ W : World, (Instr.makeSlice 87 (.int .i64 14) (.int .i64 14)).run Tryz.prog W = .ok (.slice (some ⟨W.heap.size, 0, none⟩) 14 14) (W.alloc (.cells (ints (zeros 14)).toArray 2)) := fun W => by
    have := run_make_row' 87 2 (.int .i64 0) 8 Tryz.underlying87 Tryz.info2 rfl .i64 .i64 14 (by decide) (by decide) W
    rw [show madeCells #[Value.int .i64 0] 14 = (ints (zeros 14)).toArray from by kernel_rfl] at this
    exact this
  obtain ⟨M, hM⟩ : ∃ M, (ints (zeros 14)).toArray = M := ⟨_, rfl⟩
  rw [hM] at hmk ⊢
  clear hM
  go_enter Tryz.func103, Tryz.ntmps103
  go_wp2_with fail
  refine HI.out.mono ?_
  rintro e w1 ⟨rfl, hg⟩
  obtain ⟨h1, h2, h3⟩ := fdV_blks hg
  have HG := Lib.hid ((fdV_grown w 14 fl most id).trans hg)
  have c0 := h1.cell 0
  have c1 := h2.cell 0
  have h3' := h3.alloc (.cells M 2)
  have d0 := h3'.cell 0
  have d1 := h3'.cell 1
  have f0 := h3'.free 0
  have f1 := h3'.free 1
  have H3 := Lib.hid h3
  have hlt := h3.lt
  have d0' := h3.cell 0
  have d1' := h3.cell 1
  have f0' := h3.free 0
  have f1' := h3.free 1
  have n3 : ¬ (w.heap.size + 1 + 1 = w1.heap.size) := by omega
  clear hg h1 h2 h3 h3' HI
  go_wp2_with fail
  have n1 : ¬ (w.heap.size + 1 + 1 = w.heap.size + 1) := by omega
  have n2 : ¬ (w.heap.size + 1 + 1 = w.heap.size) := by omega
  go_region_held3 (fun W => W.cell? ⟨w.heap.size + 1, 0, none⟩ = some (.int .i64 id) ∧ W.cell? ⟨w.heap.size, 0, none⟩ = some (.int .i64 14)) (go_keep) (fail)
  go_wp2
  obtain ⟨W2, hW2⟩ : ∃ W2, (w1.setCell ⟨w.heap.size + 1 + 1, 0, none⟩ (.int .i64 id)).setCell ⟨w.heap.size + 1 + 1, 1, none⟩ (.slice (some ⟨w1.heap.size, 0, none⟩) 14 14) = W2 := ⟨_, rfl⟩
  have hs2 : W2.heap.size = w1.heap.size := by rw [← hW2]; simp
  have hb6 := ((H3.out.put 0 (.int .i64 id)).put 1 (.slice (some ⟨w1.heap.size, 0, none⟩) 14 14)).alloc (.cells M 2)
  have hW := (set_lo (set_lo HG.out (show w.heap.size ≤ w.heap.size + 1 + 1 by omega) 0 (.int .i64 id)) (show w.heap.size ≤ w.heap.size + 1 + 1 by omega) 1 (.slice (some ⟨w1.heap.size, 0, none⟩) 14 14)).trans (World.grownBy_alloc _ (.cells M 2) none)
  rw [hW2] at hb6 hW ⊢
  have hbm : Blk (W2.alloc (.cells M 2)).drew w1.heap.size 2 M := by have := Blk.new W2 2 M; rwa [hs2] at this
  refine bodyPost_ret (results_cell_and_tmp (cs := #[.int .i64 id, .slice (some ⟨w1.heap.size, 0, none⟩) 14 14]) rfl _ _ (w.heap.size + 1 + 1) 89 (fr := (0, 0)) _ rfl hb6 Tryz.underlying89 rfl Tryz.size89) rfl ?_
  exact ⟨w1.heap.size, rfl, grown_drew hW, HG.out.size, hbm.lt, hbm⟩
set_option maxHeartbeats 4000000 in
set_option maxRecDepth 1000000 in
/-- **find**, where there is nothing. -/
theorem findNone10_calls (fl most id : Int) (w : World) :
    Calls Tryz.prog 103 #[.agg #[.int .i64 10, .int .i64 fl, .int .i64 most], .slice none 0 0, .int .i64 id] w fun e w' => ∃ g, e = .returned (.tuple #[.agg #[.int .i64 id, .slice (some ⟨g, 0, none⟩) 10 10], .bool false]) ∧ w.grownBy w' none ∧ w.heap.size ≤ g ∧ g < w'.heap.size ∧
      Blk w' g 2 (ints (zeros 10)).toArray := by
  have HI := Lib.hid (index0R_calls none 0 (.func (.func 177) #[] #[.pointer (some ⟨w.heap.size + 1, 0, none⟩)]) (FdV w 10 fl most id))
  have hmk : ∀ W : World, (Instr.makeSlice 87 (.int .i64 10) (.int .i64 10)).run Tryz.prog W = .ok (.slice (some ⟨W.heap.size, 0, none⟩) 10 10) (W.alloc (.cells (ints (zeros 10)).toArray 2)) := fun W => by
    have := run_make_row' 87 2 (.int .i64 0) 8 Tryz.underlying87 Tryz.info2 rfl .i64 .i64 10 (by decide) (by decide) W
    rw [show madeCells #[Value.int .i64 0] 10 = (ints (zeros 10)).toArray from by kernel_rfl] at this
    exact this
  obtain ⟨M, hM⟩ : ∃ M, (ints (zeros 10)).toArray = M := ⟨_, rfl⟩
  rw [hM] at hmk ⊢
  clear hM
  go_enter Tryz.func103, Tryz.ntmps103
  go_wp2_with fail
  refine HI.out.mono ?_
  rintro e w1 ⟨rfl, hg⟩
  obtain ⟨h1, h2, h3⟩ := fdV_blks hg
  have HG := Lib.hid ((fdV_grown w 10 fl most id).trans hg)
  have c0 := h1.cell 0
  have c1 := h2.cell 0
  have h3' := h3.alloc (.cells M 2)
  have d0 := h3'.cell 0
  have d1 := h3'.cell 1
  have f0 := h3'.free 0
  have f1 := h3'.free 1
  have H3 := Lib.hid h3
  have hlt := h3.lt
  have d0' := h3.cell 0
  have d1' := h3.cell 1
  have f0' := h3.free 0
  have f1' := h3.free 1
  have n3 : ¬ (w.heap.size + 1 + 1 = w1.heap.size) := by omega
  clear hg h1 h2 h3 h3' HI
  go_wp2_with fail
  have n1 : ¬ (w.heap.size + 1 + 1 = w.heap.size + 1) := by omega
  have n2 : ¬ (w.heap.size + 1 + 1 = w.heap.size) := by omega
  go_region_held3 (fun W => W.cell? ⟨w.heap.size + 1, 0, none⟩ = some (.int .i64 id) ∧ W.cell? ⟨w.heap.size, 0, none⟩ = some (.int .i64 10)) (go_keep) (fail)
  go_wp2
  obtain ⟨W2, hW2⟩ : ∃ W2, (w1.setCell ⟨w.heap.size + 1 + 1, 0, none⟩ (.int .i64 id)).setCell ⟨w.heap.size + 1 + 1, 1, none⟩ (.slice (some ⟨w1.heap.size, 0, none⟩) 10 10) = W2 := ⟨_, rfl⟩
  have hs2 : W2.heap.size = w1.heap.size := by rw [← hW2]; simp
  have hb6 := ((H3.out.put 0 (.int .i64 id)).put 1 (.slice (some ⟨w1.heap.size, 0, none⟩) 10 10)).alloc (.cells M 2)
  have hW := (set_lo (set_lo HG.out (show w.heap.size ≤ w.heap.size + 1 + 1 by omega) 0 (.int .i64 id)) (show w.heap.size ≤ w.heap.size + 1 + 1 by omega) 1 (.slice (some ⟨w1.heap.size, 0, none⟩) 10 10)).trans (World.grownBy_alloc _ (.cells M 2) none)
  rw [hW2] at hb6 hW ⊢
  have hbm : Blk (W2.alloc (.cells M 2)).drew w1.heap.size 2 M := by have := Blk.new W2 2 M; rwa [hs2] at this
  refine bodyPost_ret (results_cell_and_tmp (cs := #[.int .i64 id, .slice (some ⟨w1.heap.size, 0, none⟩) 10 10]) rfl _ _ (w.heap.size + 1 + 1) 89 (fr := (0, 0)) _ rfl hb6 Tryz.underlying89 rfl Tryz.size89) rfl ?_
  exact ⟨w1.heap.size, rfl, grown_drew hW, HG.out.size, hbm.lt, hbm⟩
end Go.Proofs.YtbilegkffooioaaGreatDoor
/-
  What Delta writes, in plain words: the bits of rows; and what is read of them.
-/
namespace Go.Proofs.YtbilegkffooioaaGreatDoor
open Go.RowKit
/-- A row of bits, read at a place where a number's lie. -/
theorem got_at (p r : List Bool) (X m q a : Nat) (ha : p.length = a) (hq : (p ++ hb X m ++ r).length ≤ 8 * q) : got (pk (p ++ hb X m ++ r) q) a m = (X % 2 ^ m, true, a + m) := by
  subst ha
  have hl : p.length + m ≤ 8 * q := by simp only [List.length_append, hb_len] at hq; omega
  unfold got
  rw [pk_len, if_pos hl, num_pk _ _ _ _ hl, bnum_all]
theorem hb_one (X : Nat) : hb X 1 = [decide (X % 2 = 1)] := by
  simp [hb, ht, Nat.testBit_zero]
theorem hb_bit (b : Bool) : hb (if b then 1 else 0) 1 = [b] := by cases b <;> decide
/-- One bit is read. -/
theorem got_bit (p r : List Bool) (b : Bool) (q a : Nat) (ha : p.length = a) (hq : (p ++ b :: r).length ≤ 8 * q) : got (pk (p ++ b :: r) q) a 1 = (if b then 1 else 0, true, a + 1) := by
  have e : p ++ b :: r = p ++ hb (if b then 1 else 0) 1 ++ r := by rw [hb_bit]; simp
  rw [e] at hq ⊢
  rw [got_at p r _ 1 q a ha hq]
  cases b <;> rfl
/-- A number with its sign. -/
theorem sgn_uw (x : Int) (h : -2147483648 ≤ x ∧ x ≤ 2147483647) : sgn (uw x % 2 ^ 32) 32 = x := by
  unfold sgn uw
  simp only [show (2 : Nat) ^ 32 = 4294967296 by decide, show (2 : Int) ^ 32 = 4294967296 by decide]
  split <;> omega
theorem rest_all (L : List Bool) (q : Nat) (hq : (L.length + 7) / 8 = q) : restB (pk L q) L.length = true := by
  unfold restB
  rw [pk_len, Bool.and_eq_true]
  refine ⟨?_, by simp; omega⟩
  rw [List.all_eq_true]
  intro i hi
  have hi := List.mem_range.1 hi
  rw [obit_pk _ _ _ (by omega), bi_out _ _ (by omega)]; rfl

/-- A field's bits. -/
def fldBits (flag i : Nat) (x : Int) : List Bool := if x = 0 then [false] else if i = flag then [true] else true :: hb (uw x) 32
/-- The bits of the first k fields. -/
def fldsBits (flag : Nat) (xs : List Int) (k : Nat) : List Bool := (List.range k).flatMap fun i => fldBits flag i xs[i]!
/-- A row's bits. -/
def entBits (flag : Nat) (r : Rw) : List Bool := true :: (hb r.id.toNat 31 ++ (false :: fldsBits flag r.fields r.fields.length))
/-- The bits of the first k rows. -/
def entsBits (flag : Nat) (rs : List Rw) (k : Nat) : List Bool := (rs.take k).flatMap (entBits flag)
def rowsBits (flag : Nat) (rs : List Rw) : List Bool := entsBits flag rs rs.length ++ [false]
theorem fldsBits_succ (flag : Nat) (xs : List Int) (k : Nat) : fldsBits flag xs (k + 1) = fldsBits flag xs k ++ fldBits flag k xs[k]! := by
  unfold fldsBits; rw [List.range_succ, List.flatMap_append]; simp
theorem fldBits_le (flag i : Nat) (x : Int) : (fldBits flag i x).length ≤ 33 := by
  unfold fldBits
  split
  · simp
  · split
    · simp
    · simp [hb_len]
theorem fldsBits_le (flag : Nat) (xs : List Int) : ∀ k, (fldsBits flag xs k).length ≤ 33 * k
  | 0 => by simp [fldsBits]
  | k + 1 => by
    have h1 := fldsBits_le flag xs k
    have h2 := fldBits_le flag k xs[k]!
    rw [fldsBits_succ, List.length_append]; omega
theorem entBits_le (flag : Nat) (r : Rw) : (entBits flag r).length ≤ 33 + 33 * r.fields.length := by
  have := fldsBits_le flag r.fields r.fields.length
  unfold entBits
  simp only [List.length_cons, List.length_append, hb_len]; omega
theorem entsBits_succ (flag : Nat) (rs : List Rw) (k : Nat) (r : Rw) (h : rs[k]? = some r) : entsBits flag rs (k + 1) = entsBits flag rs k ++ entBits flag r := by
  unfold entsBits; rw [List.take_add_one, h, List.flatMap_append]; simp
theorem entsBits_le (flag : Nat) (rs : List Rw) (m : Nat) (hm : ∀ r ∈ rs, r.fields.length ≤ m) (k : Nat) : (entsBits flag rs k).length ≤ (33 + 33 * m) * k := by
  have : ∀ l : List Rw, (∀ r ∈ l, r.fields.length ≤ m) → (l.flatMap (entBits flag)).length ≤ (33 + 33 * m) * l.length := by
    intro l
    induction l with
    | nil => simp
    | cons x l ih =>
      intro h
      have h1 := entBits_le flag x
      have h2 := h x (by simp)
      have h3 := ih fun r hr => h r (by simp [hr])
      rw [List.flatMap_cons, List.length_append, List.length_cons, Nat.mul_add]
      omega
  have h := this (rs.take k) fun r hr => hm r (List.mem_of_mem_take hr)
  refine Nat.le_trans h (Nat.mul_le_mul_left _ ?_)
  rw [List.length_take]; omega
/-- What lies behind k rows' bits. -/
def entsTail (flag : Nat) (rs : List Rw) (k : Nat) : List Bool := (rs.drop k).flatMap (entBits flag) ++ [false]
theorem rows_split (flag : Nat) (rs : List Rw) (k : Nat) : rowsBits flag rs = entsBits flag rs k ++ entsTail flag rs k := by
  unfold rowsBits entsBits entsTail
  rw [List.take_length, ← List.append_assoc, ← List.flatMap_append, List.take_append_drop]
theorem entsTail_cons (flag : Nat) (rs : List Rw) (k : Nat) (r : Rw) (h : rs[k]? = some r) : entsTail flag rs k = entBits flag r ++ entsTail flag rs (k + 1) := by
  unfold entsTail
  obtain ⟨hk, e⟩ := List.getElem?_eq_some_iff.1 h
  rw [List.drop_eq_getElem_cons hk, e, List.flatMap_cons, List.append_assoc]
theorem entsTail_end (flag : Nat) (rs : List Rw) (k : Nat) (h : rs.length ≤ k) : entsTail flag rs k = [false] := by
  unfold entsTail; rw [List.drop_eq_nil_of_le h]; rfl
/-- What lies behind k fields' bits. -/
def fldsTail (flag : Nat) (xs : List Int) (k : Nat) : List Bool := (List.range' k (xs.length - k)).flatMap fun i => fldBits flag i xs[i]!
theorem flds_split (flag : Nat) (xs : List Int) (k : Nat) (hk : k ≤ xs.length) : fldsBits flag xs xs.length = fldsBits flag xs k ++ fldsTail flag xs k := by
  unfold fldsBits fldsTail
  rw [← List.flatMap_append]
  congr 1
  rw [List.range_eq_range', List.range_eq_range']
  have := (List.range'_append_1 (s := 0) (m := k) (n := xs.length - k)).symm
  rw [Nat.add_sub_cancel' hk, Nat.zero_add] at this
  exact this
theorem fldsTail_cons (flag : Nat) (xs : List Int) (k : Nat) (hk : k < xs.length) : fldsTail flag xs k = fldBits flag k xs[k]! ++ fldsTail flag xs (k + 1) := by
  unfold fldsTail
  obtain ⟨n, hn⟩ : ∃ n, xs.length - k = n + 1 := ⟨xs.length - k - 1, by omega⟩
  rw [hn, show xs.length - (k + 1) = n by omega, List.range'_succ, List.flatMap_cons]
theorem fldsTail_end (flag : Nat) (xs : List Int) : fldsTail flag xs xs.length = [] := by unfold fldsTail; rw [Nat.sub_self]; rfl
end Go.Proofs.YtbilegkffooioaaGreatDoor
namespace Go.Proofs.YtbilegkffooioaaGreatDoor
open Go.RowKit

/-- The reader's slice stays. -/
def Same0 (g : Nat) (w w' : World) : Prop := ∀ v u, Blk w g 207 #[v, u] → ∃ u', Blk w' g 207 #[v, u']
theorem Same0.refl (g : Nat) (w : World) : Same0 g w w := fun _ u h => ⟨u, h⟩
theorem Same0.drewN {g : Nat} {w w' : World} (h : Same0 g w w') (n : Nat) : Same0 g w (w'.drewN n) := h
theorem Same0.set {g : Nat} {w w' : World} (h : Same0 g w w') (x : Value) : Same0 g w (w'.setCell ⟨g, 1, none⟩ x) := fun v u hb => by
  obtain ⟨u', hb'⟩ := h v u hb
  exact ⟨x, (hb'.put 1 x).of_ (by simp)⟩

set_option maxRecDepth 100000 in
set_option maxHeartbeats 1000000 in
/-- **Get**: and the reader's slice stays. -/
theorem get2_calls (g : Nat) (l : List Nat) (a : Nat) (x : Int) (w : World) (h : Rr w g l a) :
    Calls Tryz.prog 180 #[.pointer (some ⟨g, 0, none⟩), .int .i64 x] w fun e w' => e = .returned (.tuple #[.int .u64 ((got l a (inn x)).1 : Nat), .bool (got l a (inn x)).2.1]) ∧ Rr w' g l (got l a (inn x)).2.2 ∧ w.grownBy w' (some g) ∧ Same0 g w w' := by
  have hn := inn_le x
  obtain ⟨n, hnx⟩ : ∃ n, inn x = n := ⟨_, rfl⟩
  have hW := within_calls x w
  rw [hnx] at hW hn ⊢
  have hat := h.at_le
  have hlen := h.len
  have HW := Lib.hid hW
  have HR := Lib.hid h
  obtain ⟨k, hk⟩ : ∃ k, 8 * l.length - a = k := ⟨_, rfl⟩
  have HL1 : Hid (Calls Tryz.prog 118 #[.pointer (some ⟨g, 0, none⟩)] w fun e w' => e = .returned (.int .i64 (k : Int)) ∧ ∃ n, w' = w.drewN n) := Lib.hid (by rw [← hk]; exact left_calls g l a w h)
  have HL2 : Hid (∀ m, Calls Tryz.prog 118 #[.pointer (some ⟨g, 0, none⟩)] (w.drewN m).drew fun e w' => e = .returned (.int .i64 (k : Int)) ∧ ∃ n, w' = (w.drewN m).drew.drewN n) := Lib.hid (fun m => by rw [← hk]; exact left_calls g l a _ (h.drewN m).drew)
  obtain ⟨c1, f1⟩ := h.cells
  clear h hW hnx
  by_cases hle : a + n ≤ 8 * l.length
  · have hg : got l a n = (num l a n, true, a + n) := by unfold got; rw [if_pos hle]
    have hkn : ¬ k < n := by omega
    rw [hg]
    clear hg
    go_enter Tryz.func180, Tryz.ntmps180
    go_wp2_with (first
      | (go_at_call 179; refine HW.out.mono ?_; rintro e w1 ⟨rfl, rfl⟩)
      | (go_at_call 118; refine HL1.out.mono ?_; rintro e w1 ⟨rfl, m, rfl⟩))
    go_loopw [4, 22] (fun v i wr => ∃ k : Nat, k ≤ n ∧ v = .int .u64 (num l a k : Nat) ∧ i = .int .i64 k ∧ Rr wr g l (a + k) ∧ w.grownBy wr (some g) ∧ Same0 g w wr) (fun v i wr => n - (iv i).toNat)
    case atStart => exact ⟨0, by omega, rfl, rfl, HR.out.drewN m, only_drawn (World.grownBy.refl w _) m, (Same0.refl g w).drewN m⟩
    case round =>
      clear hkn hk
      obtain ⟨k, hk, rfl, rfl, hr, hgr, hsm⟩ := hrel
      have HM := Lib.hid hsm
      clear hsm
      rcases Nat.lt_or_ge k n with hlt | hge
      · obtain ⟨c1, f1⟩ := hr.cells
        have hkn : (k : Int) < (n : Int) := by omega
        have HB := Lib.hid (bit_calls g l (a + k) (a + k) wr hr (by omega))
        obtain ⟨o, ho⟩ : ∃ o, obit l (a + k) = o := ⟨_, rfl⟩
        have ho1 : o ≤ 1 := by rw [← ho]; exact obit_le l _
        obtain ⟨m0, hm0⟩ : ∃ m0, num l a k = m0 := ⟨_, rfl⟩
        have hnum : num l a (k + 1) = m0 * 2 + o := by rw [num, hm0, ho]
        have hm63 : m0 < 9223372036854775808 := by
          have := num_lt l a k
          have hp : 2 ^ k ≤ 2 ^ 63 := Nat.pow_le_pow_right (by decide) (by omega)
          omega
        rw [hm0]
        have e1 : IntKind.u64.wrap ((m0 : Int) * 2) = ((m0 * 2 : Nat) : Int) := by rw [IntKind.wrap_u64]; omega
        have e2 : bits .or .u64 ((m0 : Int) * 2) (o : Int) = ((m0 * 2 + o : Nat) : Int) := by
          have := or_shl m0 o (by omega) ho1
          simpa using this
        obtain ⟨m1, hm1⟩ : ∃ m1, m0 * 2 + o = m1 := ⟨_, rfl⟩
        rw [hm1] at e2 hnum
        have e3 : IntKind.i64.wrap (((a + k : Nat) : Int) + 1) = ((a + k + 1 : Nat) : Int) := IntWalk.i64_in _ (by omega)
        have e4 : IntKind.i64.wrap ((k : Int) + 1) = ((k + 1 : Nat) : Int) := IntWalk.i64_in _ (by omega)
        obtain ⟨p, hp⟩ : ∃ p, a + k = p := ⟨_, rfl⟩
        rw [ho] at HB
        rw [hp] at c1 e3 HB hr
        have HR2 := Lib.hid hr
        have HG := Lib.hid hgr
        have HN := Lib.hid hnum
        have HP := Lib.hid hp
        clear hr hgr hnum hp hm1 hm0 ho
        go_wp2_with (go_at_call 117; refine HB.out.mono ?_; rintro e w1 ⟨rfl, rfl⟩)
        go_roundw
        case rel =>
          refine ⟨k + 1, hlt, by rw [HN.out], ?_, by rw [← Nat.add_assoc, HP.out]; exact HR2.out.set (p + 1) (by have := HP.out; omega), only_put HG.out 1 _, HM.out.set _⟩
          simp
        case measure => simp [iv]; omega
      · obtain rfl : k = n := by omega
        have hkn : ¬ (k : Int) < (k : Int) := by omega
        have HR2 := Lib.hid hr
        have HG := Lib.hid hgr
        clear hr hgr
        go_wp2
        go_ret2
        exact ⟨rfl, HR2.out, HG.out, HM.out⟩
  · have hg : got l a n = (0, false, 8 * l.length) := by unfold got; rw [if_neg hle]
    have hkn : (k : Int) < (n : Int) := by omega
    rw [hg]
    have e1 : IntKind.i64.wrap ((a : Int) + k) = ((8 * l.length : Nat) : Int) := by rw [IntWalk.i64_in _ (by omega)]; omega
    obtain ⟨T, hT⟩ : ∃ T, 8 * l.length = T := ⟨_, rfl⟩
    rw [hT] at e1 ⊢
    have HT := Lib.hid hT
    clear hT hle hg hk
    go_enter Tryz.func180, Tryz.ntmps180
    go_wp2_with (first
      | (go_at_call 179; refine HW.out.mono ?_; rintro e w1 ⟨rfl, rfl⟩)
      | (go_at_call 118; refine HL1.out.mono ?_; rintro e w1 ⟨rfl, m, rfl⟩))
    go_region_with (go_at_call 118; refine (HL2.out m).mono ?_; rintro e w1 ⟨rfl, m2, rfl⟩)
    all_goals go_wp2
    all_goals go_ret2
    all_goals exact ⟨rfl, by rw [← HT.out]; exact (HR.out.drewN _).set (8 * l.length) (Nat.le_refl _), only_put (only_drawn (World.grownBy.refl w _) _) 1 _, ((Same0.refl g w).drewN _).set _⟩

/-- A reader whose bytes lie at or beyond lo. -/
def Rl (w : World) (lo g : Nat) (l : List Nat) (a : Nat) : Prop := Rr w g l a ∧ ∃ A c u, Blk w g 207 #[.slice A l.length c, u] ∧ Rd w g A l.length (l.map bv) ∧ ∀ ad, A = some ad → lo ≤ ad.block
end Go.Proofs.YtbilegkffooioaaGreatDoor
namespace Go.Proofs.YtbilegkffooioaaGreatDoor
open Go.RowKit

/-- Block g is a reader of these bytes, at this bit; A is where its row lies. -/
structure Rq (w : World) (g : Nat) (A : Option Addr) (l : List Nat) (a : Nat) : Prop where
  rr : Rr w g l a
  lies : ∃ c u, Blk w g 207 #[.slice A l.length c, u]
/-- Two readers lie apart. -/
def Ap (g : Nat) (A : Option Addr) (g' : Nat) (A' : Option Addr) : Prop := g ≠ g' ∧ (∀ ad, A = some ad → ad.block ≠ g') ∧ (∀ ad, A' = some ad → ad.block ≠ g)
theorem Ap.swap {g g' : Nat} {A A' : Option Addr} (h : Ap g A g' A') : Ap g' A' g A := ⟨fun e => h.1 e.symm, h.2.2, h.2.1⟩

section
variable {w w' : World} {g g' a : Nat} {A A' : Option Addr} {l : List Nat}
theorem Rq.row (h : Rq w g A l a) : ∃ c, Blk w g 207 #[.slice A l.length c, .int .i64 a] ∧ Rd w g A l.length (l.map bv) := by
  obtain ⟨⟨A0, c0, hb, hr⟩, _⟩ := h.rr
  obtain ⟨c, u, hb2⟩ := h.lies
  have e := hb.symm.trans hb2
  simp at e
  obtain ⟨⟨rfl, _⟩, _⟩ := e
  exact ⟨c0, hb, hr⟩
theorem Rq.of_ (h : Rr w' g l a) {l2 : List Nat} {a2 : Nat} (h2 : Rq w g A l2 a2) (hl : l2 = l) (hs : Same0 g w w') : Rq w' g A l a := by
  subst hl
  obtain ⟨c, u, hb⟩ := h2.lies
  obtain ⟨u', hb'⟩ := hs _ _ hb
  exact ⟨h, c, u', hb'⟩
theorem Rq.other (h : Rq w g A l a) (hg : w.grownBy w' (some g')) (hap : Ap g A g' A') : Rq w' g A l a := by
  obtain ⟨c, hb, hr⟩ := h.row
  have hb' : Blk w' g 207 #[.slice A l.length c, .int .i64 a] := hb.grown hg (fun e => hap.1 (by injection e))
  refine ⟨⟨⟨A, c, hb', hr.1, fun h0 => ?_⟩, h.rr.small, h.rr.at_le, h.rr.len⟩, c, _, hb'⟩
  obtain ⟨b, off, e, hlt, hc⟩ := hr.2 h0
  refine ⟨b, off, e, hlt, fun j u hu => (World.cell?_of_block (hg.block b (Nat.lt_trans hlt hb.lt) fun e2 => ?_)).trans (hc j u hu)⟩
  injection e2 with e2
  exact hap.2.1 _ e e2
theorem Rq.grown (h : Rq w g A l a) (hg : w.grownBy w' none) : Rq w' g A l a := by
  obtain ⟨c, u, hb⟩ := h.lies
  exact ⟨h.rr.grown hg, c, u, hb.grown hg (by simp)⟩
theorem Rq.drewN (h : Rq w g A l a) (n : Nat) : Rq (w.drewN n) g A l a := ⟨h.rr.drewN n, h.lies⟩
end

/-- **Get**, of a reader whose row is known. -/
theorem getq_calls (g : Nat) (A : Option Addr) (l : List Nat) (a : Nat) (x : Int) (w : World) (h : Rq w g A l a) :
    Calls Tryz.prog 180 #[.pointer (some ⟨g, 0, none⟩), .int .i64 x] w fun e w' => e = .returned (.tuple #[.int .u64 ((got l a (inn x)).1 : Nat), .bool (got l a (inn x)).2.1]) ∧ Rq w' g A l (got l a (inn x)).2.2 ∧ w.grownBy w' (some g) :=
  (get2_calls g l a x w h.rr).mono fun _ _ ⟨he, h1, h2, h3⟩ => ⟨he, Rq.of_ h1 h rfl h3, h2⟩

/-- **NewReader**, and where its row lies. -/
theorem newq_calls (B n c : Nat) (A : Option Addr) (l : List Nat) (hn : n ≤ 100000) (hx : ∀ x ∈ l, x < 256) (w : World) (h : Rd w B A n (l.map bv)) (hB : B ≤ w.heap.size) :
    Calls Tryz.prog 47 #[.slice A n c] w fun e w' => ∃ g A1, e = .returned (.pointer (some ⟨g, 0, none⟩)) ∧ Rq w' g A1 l 0 ∧ w.heap.size ≤ g ∧ (∀ ad, A1 = some ad → w.heap.size ≤ ad.block ∧ ad.block < g) ∧ w.grownBy w' none := by
  have HR := Lib.hid h
  have hln : l.length = n := by simpa using h.1
  clear h
  go_enter Tryz.func47, Tryz.ntmps47
  go_wp2_with (go_at_call 69; refine (clone_calls B n c A l (by omega) w HR.out hB).mono ?_; rintro e w1 ⟨A', c', rfl, h1, h2⟩; have H1 := Lib.hid h1; have H2 := Lib.hid h2; clear h1 h2)
  go_ret
  have hr := rd_of_own H1.out
  have hb : Blk (w1.alloc (.cells #[.slice A' n c', .int .i64 0] 207)) w1.heap.size 207 #[.slice A' l.length c', .int .i64 (0 : Nat)] := by rw [hln]; exact Blk.new w1 207 _
  refine ⟨_, A', rfl, ⟨⟨⟨A', c', hb, ?_⟩, hx, by simp, by omega⟩, c', _, hb⟩, H2.out.size, fun ad e => ?_, only_trans H2.out (World.grownBy_alloc w1 _ none)⟩
  · rw [hln]
    exact hr.keep fun p hp => World.cell?_of_block (Below.heap_alloc w1 _ _ hp)
  · subst e
    exact H1.out.lt ad.block rfl
end Go.Proofs.YtbilegkffooioaaGreatDoor
/-
  view's reader: fail, number, more, where nothing is wrong.
-/
namespace Go.Proofs.YtbilegkffooioaaGreatDoor
open Go.RowKit

set_option maxHeartbeats 2000000 in
set_option maxRecDepth 100000 in
theorem fail_calls (gr : Nat) (x : Int) (w : World) : Calls Tryz.prog 53 #[.pointer (some ⟨gr, 0, none⟩), .bool true, .int .i64 x] w fun e w' => e = .returned (.tuple #[]) ∧ w' = w := by
  go_enter Tryz.func53, Tryz.ntmps53
  go_wp2
  go_end0
  exact ⟨rfl, rfl⟩

/-- The reader of bits under a reader. -/
structure Rst (w : World) (gr gb : Nat) (l : List Nat) (a : Nat) : Prop where
  blk : Blk w gr 115 #[.pointer (some ⟨gb, 0, none⟩), .int .i64 0]
  rr : Rr w gb l a
  lt : gb < gr
theorem Rst.grown {w w' : World} {gr gb a : Nat} {l : List Nat} (h : Rst w gr gb l a) (hg : w.grownBy w' none) : Rst w' gr gb l a := ⟨h.blk.grown hg (by simp), h.rr.grown hg, h.lt⟩
theorem Rst.next {w w' : World} {gr gb a a' : Nat} {l : List Nat} (h : Rst w gr gb l a) (hg : w.grownBy w' (some gb)) (hr : Rr w' gb l a') : Rst w' gr gb l a' := ⟨h.blk.grown hg (by intro e; injection e with e; have := h.lt; omega), hr, h.lt⟩

set_option maxHeartbeats 2000000 in
set_option maxRecDepth 100000 in
theorem number_calls (gr gb : Nat) (l : List Nat) (a : Nat) (nb : Int) (w : World) (h : Rst w gr gb l a) (v a' : Nat) (hg : got l a (inn nb) = (v, true, a')) (hv : v < 9223372036854775808) :
    Calls Tryz.prog 108 #[.pointer (some ⟨gr, 0, none⟩), .int .i64 nb] w fun e w' => e = .returned (.int .i64 v) ∧ Rst w' gr gb l a' ∧ w.grownBy w' (some gb) := by
  have HG := Lib.hid (get_calls gb l a nb w h.rr)
  rw [hg] at HG
  have hw : IntKind.i64.wrap (v : Int) = (v : Int) := by rw [IntKind.wrap_i64]; omega
  have c0 := h.blk.cell 0
  have H := Lib.hid h
  clear h hg
  go_enter Tryz.func108, Tryz.ntmps108
  go_wp2_with fail
  refine HG.out.mono ?_
  rintro e w1 ⟨rfl, hr, hg⟩
  have H1 := Lib.hid (H.out.next hg hr)
  have HG1 := Lib.hid hg
  clear hg hr c0
  go_wp2_with fail
  refine (fail_calls gr 2 w1).mono ?_
  rintro e w2 ⟨rfl, rfl⟩
  go_wp2_with fail
  go_ret
  exact ⟨rfl, H1.out, HG1.out⟩

set_option maxHeartbeats 2000000 in
set_option maxRecDepth 100000 in
theorem more_calls (gr gb : Nat) (l : List Nat) (a : Nat) (b : Bool) (w : World) (h : Rst w gr gb l a) (hg : got l a 1 = (if b then 1 else 0, true, a + 1)) :
    Calls Tryz.prog 107 #[.pointer (some ⟨gr, 0, none⟩)] w fun e w' => e = .returned (.bool b) ∧ Rst w' gr gb l (a + 1) ∧ w.grownBy w' (some gb) := by
  have HN := Lib.hid (number_calls gr gb l a 1 w h (if b then 1 else 0) (a + 1) hg (by split <;> omega))
  clear h hg
  cases b with
  | true =>
    go_enter Tryz.func107, Tryz.ntmps107
    go_wp2_with fail
    refine HN.out.mono ?_
    rintro e w1 ⟨rfl, hr, hg⟩
    have c1 := hr.blk.cell 1
    have H1 := Lib.hid hr
    have HG := Lib.hid hg
    clear hr hg
    go_wp2_with fail
    go_ret
    exact ⟨rfl, H1.out, HG.out⟩
  | false =>
    go_enter Tryz.func107, Tryz.ntmps107
    go_wp2_with fail
    refine HN.out.mono ?_
    rintro e w1 ⟨rfl, hr, hg⟩
    have c1 := hr.blk.cell 1
    have H1 := Lib.hid hr
    have HG := Lib.hid hg
    clear hr hg
    go_wp2_with fail
    go_ret
    exact ⟨rfl, H1.out, HG.out⟩
end Go.Proofs.YtbilegkffooioaaGreatDoor
/-
  view.changed: fields are read.
-/
namespace Go.Proofs.YtbilegkffooioaaGreatDoor
open Go.RowKit

/-- The fields, i of them read. -/
def CurF (W : World) (gf : Nat) (t : TypeId) (fs : List Int) (i : Nat) : Prop := ∃ C : Array Value, Blk W gf t C ∧ ∀ j x, fs[j]? = some x → C[j]? = some (Value.int .i64 (if j < i then x else 0))
section
variable {W W' : World} {gf i : Nat} {t : TypeId} {fs : List Int}
theorem CurF.lt (h : CurF W gf t fs i) : gf < W.heap.size := by obtain ⟨C, hb, _⟩ := h; exact hb.lt
theorem CurF.grown {row : Option Nat} (h : CurF W gf t fs i) (hg : W.grownBy W' row) (hr : some gf ≠ row) : CurF W' gf t fs i := by
  obtain ⟨C, hb, hc⟩ := h
  exact ⟨C, hb.grown hg hr, hc⟩
theorem CurF.cell {x : Int} (h : CurF W gf t fs i) (hx : fs[i]? = some x) : W.cell? ⟨gf, i, none⟩ = some (.int .i64 0) := by
  obtain ⟨C, hb, hc⟩ := h
  have := hc i x hx
  rw [if_neg (Nat.lt_irrefl _)] at this
  exact (hb.cell i).trans this
theorem CurF.free (h : CurF W gf t fs i) (j : Nat) : W.frozen? ⟨gf, j, none⟩ = false := by
  obtain ⟨C, hb, hc⟩ := h
  exact hb.free j
theorem CurF.set {x : Int} (h : CurF W gf t fs i) (hx : fs[i]? = some x) : CurF (W.setCell ⟨gf, i, none⟩ (.int .i64 x)) gf t fs (i + 1) := by
  obtain ⟨C, hb, hc⟩ := h
  refine ⟨_, hb.put i _, fun j y hy => ?_⟩
  rw [Array.getElem?_setIfInBounds]
  by_cases e : i = j
  · subst e
    rw [hx] at hy
    injection hy with hy
    subst hy
    have hl : i < C.size := (Array.getElem?_eq_some_iff.1 (hc i x hx)).1
    rw [if_pos rfl, if_pos hl, if_pos (Nat.lt_succ_self _)]
  · rw [if_neg e, hc j y hy]
    by_cases h1 : j < i
    · rw [if_pos h1, if_pos (by omega)]
    · rw [if_neg h1, if_neg (by omega)]
theorem CurF.skip (h : CurF W gf t fs i) (hx : fs[i]? = some 0) : CurF W gf t fs (i + 1) := by
  obtain ⟨C, hb, hc⟩ := h
  refine ⟨C, hb, fun j y hy => ?_⟩
  rw [hc j y hy]
  by_cases e : i = j
  · subst e
    rw [hx] at hy
    injection hy with hy
    subst hy
    simp
  · by_cases h1 : j < i
    · rw [if_pos h1, if_pos (by omega)]
    · rw [if_neg h1, if_neg (by omega)]
theorem CurF.done (h : CurF W gf t fs fs.length) : ∀ j u, (ints fs)[j]? = some u → W.cell? ⟨gf, 0 + j, none⟩ = some u := fun j u hu => by
  obtain ⟨C, hb, hc⟩ := h
  unfold ints at hu
  rw [List.getElem?_map] at hu
  cases hj : fs[j]? with
  | none => rw [hj] at hu; cases hu
  | some x =>
    rw [hj] at hu
    injection hu with hu
    rw [Nat.zero_add, hb.cell j, hc j x hj, if_pos (List.getElem?_eq_some_iff.1 hj).1]
    exact congrArg some hu
end
theorem Rst.keep {w w' : World} {gr gb a : Nat} {l : List Nat} (h : Rst w gr gb l a) (hk : ∀ k, k ≤ gb → w'.heap[k]? = w.heap[k]?) (hg : w'.heap[gr]? = w.heap[gr]?) : Rst w' gr gb l a := ⟨hg.trans h.blk, h.rr.keep hk, h.lt⟩
theorem Rst.store {w : World} {gr gb a gf : Nat} {l : List Nat} (h : Rst w gr gb l a) (h1 : gb < gf) (h2 : gf ≠ gr) (i : Nat) (u : Value) : Rst (w.setCell ⟨gf, i, none⟩ u) gr gb l a :=
  h.keep (fun k hk => Below.heap_setCell w ⟨gf, i, none⟩ u k (by simp; omega)) (Below.heap_setCell w ⟨gf, i, none⟩ u gr (by simp; omega))
theorem Frm.only {w w1 w2 : World} {g : Nat} {r : Option Nat} (h : Frm w w1 g r) (k : w1.grownBy w2 (some g)) : Frm w w2 g r := h.grown k (.inr (.inl rfl))

set_option maxHeartbeats 8000000 in
set_option maxRecDepth 1000000 in
/-- **changed.** -/
theorem changed_calls (fl : Nat) (most : Int) (gr gb gf cap : Nat) (t : TypeId) (bs p r : List Bool) (N : Nat) (fs : List Int) (hbs : bs = p ++ (fldsBits fl fs fs.length ++ r)) (hN : bs.length ≤ 8 * N) (w : World) (h : Rst w gr gb (pk bs N) p.length)
    (hwide : ∀ x ∈ fs, -2147483648 ≤ x ∧ x ≤ 2147483647) (hflag : ∀ x, fs[fl]? = some x → x = 0 ∨ x = 1) (hlen : fs.length ≤ 14) (hb : CurF w gf t fs 0) (hgf : gb < gf) (hgr : gf ≠ gr) :
    Calls Tryz.prog 112 #[.agg #[.int .i64 fs.length, .int .i64 fl, .int .i64 most], .pointer (some ⟨gr, 0, none⟩), .slice (some ⟨gf, 0, none⟩) fs.length cap] w fun e w' =>
      e = .returned (.bool (fs.any fun x => x != 0)) ∧ Rst w' gr gb (pk bs N) (p.length + (fldsBits fl fs fs.length).length) ∧ CurF w' gf t fs fs.length ∧ Frm w w' gb (some gf) := by
  have HBS := Lib.hid hbs
  have HN := Lib.hid hN
  have H := Lib.hid h
  have HW := Lib.hid hwide
  have HFL := Lib.hid hflag
  have HB := Lib.hid hb
  obtain ⟨n, hn⟩ : ∃ n, fs.length = n := ⟨_, rfl⟩
  have HNL := Lib.hid hn
  have hn14 : n ≤ 14 := by omega
  rw [hn]
  have HGR : Hid (gr < w.heap.size) := Lib.hid h.blk.lt
  have HGF : Hid (gf < w.heap.size) := Lib.hid hb.lt
  have HS0 : Hid (gb < w.heap.size) := Lib.hid h.rr.lt
  obtain ⟨res, hres⟩ : ∃ res, (fs.any fun x => x != 0) = res := ⟨_, rfl⟩
  rw [hres]
  have HRES := Lib.hid hres
  clear hbs hN h hwide hflag hb hn hres hlen
  go_enter Tryz.func112, Tryz.ntmps112
  go_wp2_with fail
  go_loopg [6, 12] n (fun kx s6 s12 wr => ∃ (i : Nat) (b : Bool), s6 = .bool b ∧ s12 = .int .i64 i ∧ i ≤ n ∧ n - i ≤ kx ∧ Hid (b = (fs.take i).any fun x => x != 0) ∧ Hid (Rst wr gr gb (pk bs N) (p.length + (fldsBits fl fs i).length)) ∧ Hid (CurF wr gf t fs i) ∧ Hid (Frm w wr gb (some gf)) ∧ Hid (Blk wr w.heap.size 83 #[.int .i64 n, .int .i64 fl, .int .i64 most]))
  case atStart => exact ⟨0, false, rfl, rfl, by omega, by omega, Lib.hid (by simp), Lib.hid (by have := H.out.grown (World.grownBy_alloc w (.cells #[.int .i64 n, .int .i64 fl, .int .i64 most] 83) none); simpa [fldsBits] using this), Lib.hid (HB.out.grown (World.grownBy_alloc _ _ none) (by simp)), Lib.hid ((Frm.refl w gb _).grown (World.grownBy_alloc _ _ none) (.inr (.inr (fun _ e => by cases e)))), Blk.new w 83 _⟩
  case round =>
    obtain ⟨i, b, rfl, rfl, hi, hix, HBB, HR, HF, HFR, HB0⟩ := hrel
    by_cases hlt : i < n
    · obtain ⟨x, hx⟩ : ∃ x, fs[i]? = some x := ⟨fs[i]'(by rw [HNL.out]; exact hlt), List.getElem?_eq_getElem _⟩
      have hxb : fs[i]! = x := by simp [hx]
      have hxm := List.mem_of_getElem? hx
      have HX := Lib.hid hx
      have hsp : bs = (p ++ fldsBits fl fs i) ++ (fldBits fl i x ++ (fldsTail fl fs (i + 1) ++ r)) := by
        rw [HBS.out, flds_split fl fs i (by rw [HNL.out]; omega), fldsTail_cons fl fs i (by rw [HNL.out]; omega), hxb]
        simp only [List.append_assoc]
      have HSP := Lib.hid hsp
      have hlen2 : (p ++ fldsBits fl fs i).length = p.length + (fldsBits fl fs i).length := List.length_append
      have HSUC : Hid (p.length + (fldsBits fl fs (i + 1)).length = p.length + (fldsBits fl fs i).length + (fldBits fl i x).length) := Lib.hid (by rw [fldsBits_succ, hxb, List.length_append]; omega)
      have HTAKE : Hid ((fs.take (i + 1)).any (fun x => x != 0) = ((fs.take i).any (fun x => x != 0) || (x != 0))) := Lib.hid (by rw [List.take_add_one, hx]; simp)
      have hbi : (i : Int) < (n : Int) := by omega
      have cz := HF.out.cell hx
      have cfz := HF.out.free i
      clear hx hxb
      by_cases hx0 : x = 0
      · subst hx0
        have hg : got (pk bs N) (p.length + (fldsBits fl fs i).length) 1 = (if false then 1 else 0, true, p.length + (fldsBits fl fs i).length + 1) := by
          have e : bs = (p ++ fldsBits fl fs i) ++ false :: (fldsTail fl fs (i + 1) ++ r) := by
            rw [hsp]; unfold fldBits; rw [if_pos rfl]; rfl
          have hl := HN.out
          rw [e] at hl ⊢
          exact got_bit _ _ false N _ hlen2 hl
        have HM := Lib.hid (more_calls gr gb _ _ false wr HR.out hg)
        clear hg hsp hlen2 cz cfz hxm
        go_wp2_with fail
        refine HM.out.mono ?_
        rintro e w1 ⟨rfl, hr1, hg1⟩
        have HR1 := Lib.hid hr1
        have HG1 := Lib.hid hg1
        clear hr1 hg1
        go_wp2_with fail
        go_roundg (n - (i + 1))
        case measure => omega
        case rel =>
          refine ⟨i + 1, b, rfl, by go_num, by omega, by omega, ?_, ?_, ?_, HFR.out.only HG1.out, HB0.out.grown HG1.out (by intro e; injection e with e; have := HS0.out; omega)⟩
          · exact Lib.hid (by rw [HTAKE.out, ← HBB.out]; simp)
          · rw [HSUC.out]; unfold fldBits; rw [if_pos rfl]; exact HR1
          · exact Lib.hid ((HF.out.grown HG1.out (by intro e; injection e with e; omega)).skip HX.out)
      · have hxn : (x != 0) = true := by simpa using hx0
        have hb1 : fldBits fl i x = true :: (if i = fl then [] else hb (uw x) 32) := by unfold fldBits; rw [if_neg hx0]; split <;> rfl
        have hg : got (pk bs N) (p.length + (fldsBits fl fs i).length) 1 = (if true then 1 else 0, true, p.length + (fldsBits fl fs i).length + 1) := by
          have e : bs = (p ++ fldsBits fl fs i) ++ true :: ((if i = fl then [] else hb (uw x) 32) ++ (fldsTail fl fs (i + 1) ++ r)) := by
            rw [hsp, hb1]; rfl
          have hl := HN.out
          rw [e] at hl ⊢
          exact got_bit _ _ true N _ hlen2 hl
        have HM := Lib.hid (more_calls gr gb _ _ true wr HR.out hg)
        have HB1 := Lib.hid hb1
        clear hg
        by_cases hif : i = fl
        · subst hif
          obtain rfl : x = 1 := by
            rcases HFL.out x HX.out with h | h
            · exact absurd h hx0
            · exact h
          clear hsp hlen2 hxm hx0 hxn hb1 cz cfz
          go_wp2_with fail
          refine HM.out.mono ?_
          rintro e w1 ⟨rfl, hr1, hg1⟩
          have HR1 := Lib.hid hr1
          have HG1 := Lib.hid hg1
          have hF1 := HF.out.grown hg1 (by intro e; injection e with e; omega)
          have hB01 := HB0.out.grown hg1 (by intro e; injection e with e; have := HS0.out; omega)
          have b0 := hB01.cell 0
          have b1 := hB01.cell 1
          have b2 := hB01.cell 2
          have cz := hF1.cell HX.out
          have cfz := hF1.free i
          have HF1 := Lib.hid hF1
          have HB01 := Lib.hid hB01
          have HSN : Hid (w.heap.size ≠ gf) := Lib.hid (by have := HGF.out; omega)
          clear hr1 hg1 hF1 hB01
          go_wp2_with fail
          go_roundg (n - (i + 1))
          case measure => omega
          case rel =>
            refine ⟨i + 1, true, rfl, by go_num, by omega, by omega, ?_, ?_, ?_, (HFR.out.only HG1.out).grown (World.grownBy_setCell' w1 gf i (.int .i64 1)) (.inl rfl), Blk.other HB01.out i (.int .i64 1) HSN.out⟩
            · exact Lib.hid (by rw [HTAKE.out, ← HBB.out]; simp)
            · rw [HSUC.out, HB1.out]
              exact HR1.out.store hgf hgr i (.int .i64 1)
            · exact Lib.hid (HF1.out.set HX.out)
        · have hif2 : ((i : Int) == (fl : Int)) = false := by simp; omega
          have hg2 : got (pk bs N) (p.length + (fldsBits fl fs i).length + 1) (inn 32) = (uw x % 2 ^ 32, true, p.length + (fldsBits fl fs i).length + 1 + 32) := by
            have e : bs = (p ++ fldsBits fl fs i ++ [true]) ++ hb (uw x) 32 ++ (fldsTail fl fs (i + 1) ++ r) := by
              rw [hsp, hb1, if_neg hif]; simp
            have hl := HN.out
            rw [e] at hl ⊢
            exact got_at _ _ (uw x) 32 N _ (by rw [List.length_append, hlen2]; rfl) hl
          have HGT := Lib.hid hg2
          have HSG := Lib.hid (sgn_uw x (HW.out x hxm))
          have HNX := Lib.hid hxn
          clear hsp hlen2 hxm hb1 hg2 cz cfz
          go_wp2_with fail
          refine HM.out.mono ?_
          rintro e w1 ⟨rfl, hr1, hg1⟩
          have HR1 := Lib.hid hr1
          have HG1 := Lib.hid hg1
          have hF1 := HF.out.grown hg1 (by intro e; injection e with e; omega)
          have hB01 := HB0.out.grown hg1 (by intro e; injection e with e; have := HS0.out; omega)
          have b0 := hB01.cell 0
          have b1 := hB01.cell 1
          have b2 := hB01.cell 2
          have g0 := hr1.blk.cell 0
          have HF1 := Lib.hid hF1
          have HB01 := Lib.hid hB01
          have HS2 : Hid (Calls Tryz.prog 181 #[.pointer (some ⟨gb, 0, none⟩), .int .i64 32] w1 fun e w' => e = .returned (.tuple #[.int .i64 x, .bool true]) ∧ Rr w' gb (pk bs N) (p.length + (fldsBits fl fs i).length + 1 + 32) ∧ w1.grownBy w' (some gb)) := by
            have h := signR_calls gb (pk bs N) _ 32 w1 hr1.rr
            rw [HGT.out] at h
            rw [show inn 32 = 32 by decide] at h
            simp only at h
            rw [HSG.out] at h
            exact Lib.hid h
          clear hr1 hg1 hF1 hB01
          go_wp2_with fail
          refine HS2.out.mono ?_
          rintro e w2 ⟨rfl, hr2, hg2⟩
          have HR2 := Lib.hid (HR1.out.next hg2 hr2)
          have HG2 := Lib.hid hg2
          have hF2 := HF1.out.grown hg2 (by intro e; injection e with e; omega)
          have hB02 := HB01.out.grown hg2 (by intro e; injection e with e; have := HS0.out; omega)
          have cz := hF2.cell HX.out
          have cfz := hF2.free i
          have HF2 := Lib.hid hF2
          have HB02 := Lib.hid hB02
          have HSN : Hid (w.heap.size ≠ gf) := Lib.hid (by have := HGF.out; omega)
          clear hr2 hg2 hF2 hB02 b0 b1 b2 g0
          go_wp2_with fail
          refine (fail_calls gr 2 w2).mono ?_
          rintro e w3 ⟨rfl, rfl⟩
          go_wp2_with fail
          refine (fail_calls gr 3 _).mono ?_
          rintro e w3 ⟨rfl, rfl⟩
          go_wp2_with fail
          go_roundg (n - (i + 1))
          case measure => omega
          case rel =>
            refine ⟨i + 1, true, rfl, by go_num, by omega, by omega, ?_, ?_, ?_, ((HFR.out.only HG1.out).only HG2.out).grown (World.grownBy_setCell' _ gf i (.int .i64 x)) (.inl rfl), Blk.other HB02.out i (.int .i64 x) HSN.out⟩
            · exact Lib.hid (by rw [HTAKE.out, ← HBB.out, HNX.out]; simp)
            · rw [HSUC.out, HB1.out, if_neg hif]
              have e : (true :: hb (uw x) 32).length = 1 + 32 := by rw [List.length_cons, hb_len]
              rw [e, ← Nat.add_assoc]
              exact HR2.out.store hgf hgr i (.int .i64 x)
            · exact Lib.hid (HF2.out.set HX.out)
    · obtain rfl : i = n := by omega
      obtain rfl : b = res := by rw [HBB.out, List.take_of_length_le (by rw [HNL.out]; exact Nat.le_refl _), HRES.out]
      have HF2 : Hid (CurF wr gf t fs fs.length) := Lib.hid (by rw [HNL.out]; exact HF.out)
      have HR2 : Hid (Rst wr gr gb (pk bs N) (p.length + (fldsBits fl fs fs.length).length)) := Lib.hid (by rw [HNL.out]; exact HR.out)
      go_wp2
      go_ret
      refine ⟨rfl, ?_, by have := HF2.out; rw [HNL.out] at this; exact this, HFR.out⟩
      have := HR2.out
      rw [HNL.out] at this
      exact this
end Go.Proofs.YtbilegkffooioaaGreatDoor
/-
  slices.SortStableFunc at 'seen': the exchanges.
-/
namespace Go.Proofs.YtbilegkffooioaaGreatDoor
open Go.Shelf Go.RowKit Go.Lib Go.Sort
variable {α : Type} [Inhabited α]
attribute [-simp] Tryz.sizeOf97

set_option maxHeartbeats 4000000 in
set_option maxRecDepth 1000000 in
theorem swapRange_calls (enc : α → List Value) (g : Nat) (cb : Array Value) (blk off cap lo hi a b n : Nat) (d0 d : Array α) (w0 w : World)
    (R : RowK enc 4 w0 blk off d0) (hs : d0.size = d.size) (S : SWK enc 4 w0 blk off d w) (h1 : lo ≤ a) (h2 : lo ≤ b) (h3 : a + n ≤ hi) (h4 : b + n ≤ hi) (h5 : hi ≤ d.size) (hsz : d.size < 4611686018427387904) :
    Calls Tryz.prog 267 #[.slice (some ⟨blk, off, none⟩) d.size cap, .int .i64 a, .int .i64 b, .int .i64 n, .func (.func g) #[] cb] w fun e w' => e = .returned (.tuple #[]) ∧ ∃ d', PermIn lo hi d d' ∧ SWK enc 4 w0 blk off d' w' := by
  have mixed : Tryz.prog.follows .mixedOrders = true := by kernel_rfl
  obtain ⟨k, hk4⟩ : ∃ k, k = 4 := ⟨_, rfl⟩
  rw [← hk4] at R S ⊢
  have zE : ∀ w, (Go.sizeOf 97).run Tryz.prog w = .ok k w := by rw [hk4]; exact Tryz.sizeOf97
  have HK4 : Hid (k = 4) := hk4
  clear hk4
  have S0 : Aside (SWK enc k w0 blk off d w) := S
  clear S
  go_enter Tryz.func267, Tryz.ntmps267
  go_wp2
  go_loopg [10] n (fun kx s10 wr => ∃ (i : Nat) (dk : Array α), s10 = .int .i64 i ∧ i ≤ n ∧ n - i ≤ kx ∧ Aside (PermIn lo hi d dk) ∧ Aside (SWK enc k w0 blk off dk wr))
  case atStart => exact ⟨0, d, rfl, by omega, by omega, permIn_refl d lo hi, S0⟩
  case round =>
    clear S0
    obtain ⟨i, dk, rfl, hin, hkx, hP, S1⟩ := hrel
    have hds : dk.size = d.size := hP.out.1
    by_cases hlt : i < n
    · have hltz : (i : Int) < (n : Int) := by omega
      go_wp2_with fail
      have wa : IntKind.i64.wrap ((a : Int) + (i : Int)) = ((a + i : Nat) : Int) := by rw [IntKind.wrap_i64]; omega
      have wb : IntKind.i64.wrap ((b : Int) + (i : Int)) = ((b + i : Nat) : Int) := by rw [IntKind.wrap_i64]; omega
      obtain ⟨x, hx⟩ : ∃ x, a + i = x := ⟨_, rfl⟩
      obtain ⟨y, hy⟩ : ∃ y, b + i = y := ⟨_, rfl⟩
      rw [hx] at wa
      rw [hy] at wb
      have ea44 : ((x : Int)).toNat = x := by omega
      have pa44 : (0 : Int) ≤ (x : Int) := by omega
      have ba44 : (x : Int) < (d.size : Int) := by omega
      have ra44 : IntKind.i64.wrap ((x : Int)) = (x : Int) := by rw [IntKind.wrap_i64]; omega
      have ec44 : ((y : Int)).toNat = y := by omega
      have pc44 : (0 : Int) ≤ (y : Int) := by omega
      have bc44 : (y : Int) < (d.size : Int) := by omega
      have rc44 : IntKind.i64.wrap ((y : Int)) = (y : Int) := by rw [IntKind.wrap_i64]; omega
      have S2 : Aside (SWK enc k w0 blk off (swp dk x y) ((wr.drew.setCells blk (off + x * k) (enc dk[y]!)).setCells blk (off + y * k) (enc dk[x]!))) := S1.out.swapped R x y (by omega) (by omega)
      have l44a := S1.out.ld1 R (by omega) Tryz.prog x (by omega)
      have l44b := S1.out.ld1 R (by omega) Tryz.prog y (by omega)
      have s44a := S1.out.st1 R (by omega) Tryz.prog x (by omega) dk[y]!
      have s44b := S1.out.st2 R (by omega) Tryz.prog x y (by omega) (by omega) dk[y]! dk[x]!
      have n44a : (enc dk[x]!).length = k := R.hk _
      have n44b : (enc dk[y]!).length = k := R.hk _
      have hP2 : Aside (PermIn lo hi d (swp dk x y)) := permIn_trans _ _ _ _ _ hP.out (swp_permIn dk lo hi x y (by omega) (by omega) (by omega) (by omega) (by omega))
      generalize enc dk[x]! = cI44 at S2 l44a s44b n44a
      generalize enc dk[y]! = cJ44 at S2 l44b s44a s44b n44b
      clear S1
      go_wp2_with fail
      go_big_region_o
      clear l44a l44b s44a s44b
      generalize (wr.drew.setCells blk (off + x * k) cJ44).setCells blk (off + y * k) cI44 = w2 at S2 ⊢
      go_wp2
      go_roundg (n - (i + 1))
      case measure => omega
      case rel => exact ⟨i + 1, swp dk x y, by go_num, by omega, by omega, hP2, S2⟩
    · have hltz : ¬ (i : Int) < (n : Int) := by omega
      go_wp2
      go_end0
      exact ⟨rfl, dk, hP.out, HK4.out ▸ S1.out⟩
end Go.Proofs.YtbilegkffooioaaGreatDoor
