/-
  DERIVED. GIVEN WITH THE SEED: THE PROGRAM's TIES (one call each: nine closed facts by the kernel) AND EACH ROW's TIE, after the 31st guide's Derived/Test/Toyas{Tie, Card}.lean. No idea stands in it: it is a product of the set-up. Laid BY PROGRAM, IN A SANDBOX (cutbox-door.mjs). By AI agents, Wed Nov 11 2026. No macro, syntax, notation, axiom, sorry.
-/
import Derived.Test.YtbilegkffooioaaGreatDoorRows
import Derived.LaidByTextLater
import Derived.SevenTiedAt
import Derived.LaidSub
import Derived.LaidOnce
namespace Go.Proofs.YtbilegkffooioaaGreatDoor
open Go
set_option maxRecDepth 100000
theorem seatTie1 : Tryz.prog.laidByTextLater [("embrasure/crc.halves", Rows.laid_embrasure_crc_halves), ("embrasure/view.players", Rows.laid_embrasure_view_players), ("embrasure/view.shots", Rows.laid_embrasure_view_shots)] [.data, .wider, .wider] true :=
  Program.laidByTextLater_by_one 24 8 17 (by kernel_rfl) (by kernel_rfl) (by kernel_rfl) (by kernel_rfl) (by kernel_rfl) (by kernel_rfl) (fun _ _ => by kernel_rfl)
theorem noOwnUnsafe : Tryz.pinned.checked.prog.headLifts.contains "ownunsafe" = false := by kernel_rfl
theorem tie : Tryz.prog.laidByTextLater [("embrasure/crc.halves", Rows.laid_embrasure_crc_halves), ("embrasure/view.players", Rows.laid_embrasure_view_players), ("embrasure/view.shots", Rows.laid_embrasure_view_shots)] [.data, .wider, .wider] true :=
  Program.laidByTextLater.sub seatTie1 ["embrasure/crc.halves", "embrasure/view.players", "embrasure/view.shots"] (by kernel_rfl) (by kernel_rfl)
theorem topHidden_row_tie : Rows.topHiddenRow.laidByTextAt .later Tryz.pinned [.data, .wider, .wider] true :=
  OpenClaim.laidByTextAt_later rfl rfl tie noOwnUnsafe
theorem topOnce_row_tie : Rows.topOnceRow.laidByTextAt .later Tryz.pinned [.data, .wider, .wider] true :=
  OpenClaim.laidByTextAt_later rfl rfl tie noOwnUnsafe
theorem topHiddenUpto_row_tie : Rows.topHiddenUptoRow.laidByTextAt .later Tryz.pinned [.data, .wider, .wider] true :=
  OpenClaim.laidByTextAt_later rfl rfl tie noOwnUnsafe
theorem topOnceUpto_row_tie : Rows.topOnceUptoRow.laidByTextAt .later Tryz.pinned [.data, .wider, .wider] true :=
  OpenClaim.laidByTextAt_later rfl rfl tie noOwnUnsafe
end Go.Proofs.YtbilegkffooioaaGreatDoor
