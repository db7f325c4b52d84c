/-
  What the condition on the laid table gives the walks: its sixteen cells.
-/
import Derived.Test.YtefgcbdfimpaoaaDoorWalk
import Derived.Test.YtefgcbdfimpaoaaDoorRowBase
import Derived.Test.YtefgcbdfimpaoaaDoorTie
import Derived.Test.YtefgcbdfimpaoaaDoorCards
namespace Go.Proofs.YtefgcbdfimpaoaaDoor
open Go.ChangeShapes Go.WideShapes Go.ChangeAt Go.RowKit
theorem gNum : Tryd.prog.globalNamed "embrasure/crc.halves" = some 0 := by kernel_rfl
theorem gType : (Tryd.prog.globals[0]?).map (·.type) = some 37 := by kernel_rfl
def halvesZs : List Int := [0, 4129, 8258, 12387, 16516, 20645, 24774, 28903, 33032, 37161, 41290, 45419, 49548, 53677, 57806, 61935]
theorem of_laid {W : World} (h : laidMetH Tryd.prog [("embrasure/crc.halves", Rows.laid_embrasure_crc_halves)] W) : Table W := by
  rw [MakeChecks.laidMetH_plain _ _ _ (by kernel_rfl)] at h
  have hT : Lib.TabIs Tryd.prog W "embrasure/crc.halves"   .u16 halvesZs := Lib.tabIs_of_head gNum gType Tryd.underlying37 Tryd.underlying23 (by kernel_rfl) (by kernel_rfl) h
  have hc := fun i hi => hT.cell gNum i hi
  refine ⟨cell_lt (hc 0 (by decide)), fun i hi => ?_⟩
  rw [hc i hi]
  have : ∀ j : Fin 16, halvesZs.getD j.1 0 = ((j.1 * 4129 : Nat) : Int) := by decide
  rw [this ⟨i, hi⟩]
end Go.Proofs.YtefgcbdfimpaoaaDoor
