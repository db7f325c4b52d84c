/-
  DERIVED. GIVEN WITH THE SEED: THE CARDS: each row of YtbilegkffooioaaGreatDoorRows.lean that lists a variable, with what it lists TIED to the program's text (the seventh form; the later family's looks); each row that meets fmt, with fmt's text TOLD by the authors' own Lean function (tested against real Go, not proved from fmt's source: count such statements apart). THE CARD IS WHAT COUNTS. Prove the row's statement (the work); the ties are given (YtbilegkffooioaaGreatDoorTie.lean); close each card by the builder's one call (the guide's Derived/Test/ToyasCard.lean, 'card_holds'). Laid BY PROGRAM, IN A SANDBOX (cutbox-door.mjs). By AI agents, Wed Nov 11 2026. No macro, syntax, notation, axiom, sorry.
-/
import Derived.Test.YtbilegkffooioaaGreatDoorRows
import GoSem.ClaimSeven
namespace Go.Proofs.YtbilegkffooioaaGreatDoor
namespace Rows

/-- THE TIED CARD OF 'embrasuretop.TopHidden'. -/
def topHiddenCard : Claim7 := { stood := { row := topHiddenRow, standIns := [], harness := (true, "694856a6bd94bcd19f2f1bc75bd4443acea5f5509e4da6390673add87b709b8e"), looks := false }, kinds := [], alts := [], laidByText := true, laidKinds := [.data, .wider, .wider], laidTests := true, laidLooks := .later }
def TopHiddenCardSaid : Prop := Claim7.holds Tryz.pinned (.plain (OpenSpec.ofChange topHiddenSpec)) topHiddenCard

/-- THE TIED CARD OF 'embrasuretop.TopOnce'. -/
def topOnceCard : Claim7 := { stood := { row := topOnceRow, standIns := [], harness := (true, "694856a6bd94bcd19f2f1bc75bd4443acea5f5509e4da6390673add87b709b8e"), looks := false }, kinds := [], alts := [], laidByText := true, laidKinds := [.data, .wider, .wider], laidTests := true, laidLooks := .later }
def TopOnceCardSaid : Prop := Claim7.holds Tryz.pinned (.plain (OpenSpec.ofChange topOnceSpec)) topOnceCard

/-- THE SECOND FORM's CARD OF 'embrasuretop.TopHidden'. -/
def topHiddenUptoCard : Claim7 := { stood := { row := topHiddenUptoRow, standIns := [], harness := (true, "694856a6bd94bcd19f2f1bc75bd4443acea5f5509e4da6390673add87b709b8e"), looks := false }, kinds := [], alts := [], laidByText := true, laidKinds := [.data, .wider, .wider], laidTests := true, laidLooks := .later }
def TopHiddenUptoCardSaid : Prop := Claim7.holds Tryz.pinned (.plain (OpenSpec.upto topHiddenSpec)) topHiddenUptoCard

/-- THE SECOND FORM's CARD OF 'embrasuretop.TopOnce'. -/
def topOnceUptoCard : Claim7 := { stood := { row := topOnceUptoRow, standIns := [], harness := (true, "694856a6bd94bcd19f2f1bc75bd4443acea5f5509e4da6390673add87b709b8e"), looks := false }, kinds := [], alts := [], laidByText := true, laidKinds := [.data, .wider, .wider], laidTests := true, laidLooks := .later }
def TopOnceUptoCardSaid : Prop := Claim7.holds Tryz.pinned (.plain (OpenSpec.upto topOnceSpec)) topOnceUptoCard
end Rows
end Go.Proofs.YtbilegkffooioaaGreatDoor
