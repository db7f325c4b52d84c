/-
  DERIVED. GIVEN WITH THE SEED: THE CARDS: each row of YtefgcbdfimpaoaaDoorRows.lean that lists a variable, with what it lists TIED to the program's text (the seventh form; the later family's looks); each row that meets fmt, with fmt's text TOLD by the authors' own Lean function (tested against real Go, not proved from fmt's source: count such statements apart). THE CARD IS WHAT COUNTS. Prove the row's statement (the work); the ties are given (YtefgcbdfimpaoaaDoorTie.lean); close each card by the builder's one call (the guide's Derived/Test/ToyasCard.lean, 'card_holds'). Laid BY PROGRAM, IN A SANDBOX (cutbox-door.mjs). By AI agents, Wed Nov 11 2026. No macro, syntax, notation, axiom, sorry.
-/
import Derived.Test.YtefgcbdfimpaoaaDoorRows
import GoSem.ClaimSeven
namespace Go.Proofs.YtefgcbdfimpaoaaDoor
namespace Rows

/-- THE TIED CARD OF 'embrasurelaw04.CrcTells'. -/
def crcTellsCard : Claim7 := { stood := { row := crcTellsRow, standIns := [], harness := (true, "e97a27e845610eb075d9c8ee78b4bb4c533d04469a2c99280ac464187ce753d1"), looks := false }, kinds := [], alts := [], laidByText := true, laidKinds := [.data], laidTests := true, laidLooks := .later }
def CrcTellsCardSaid : Prop := Claim7.holds Tryd.pinned (.plain (OpenSpec.ofChange crcTellsSpec)) crcTellsCard

/-- THE TIED CARD OF 'embrasurelaw04.CrcPieces'. -/
def crcPiecesCard : Claim7 := { stood := { row := crcPiecesRow, standIns := [], harness := (true, "e97a27e845610eb075d9c8ee78b4bb4c533d04469a2c99280ac464187ce753d1"), looks := false }, kinds := [], alts := [], laidByText := true, laidKinds := [.data], laidTests := true, laidLooks := .later }
def CrcPiecesCardSaid : Prop := Claim7.holds Tryd.pinned (.plain (OpenSpec.ofChange crcPiecesSpec)) crcPiecesCard

/-- THE TIED CARD OF 'embrasurelaw04.CrcBursts'. -/
def crcBurstsCard : Claim7 := { stood := { row := crcBurstsRow, standIns := [], harness := (true, "e97a27e845610eb075d9c8ee78b4bb4c533d04469a2c99280ac464187ce753d1"), looks := false }, kinds := [], alts := [], laidByText := true, laidKinds := [.data], laidTests := true, laidLooks := .later }
def CrcBurstsCardSaid : Prop := Claim7.holds Tryd.pinned (.plain (OpenSpec.ofChange crcBurstsSpec)) crcBurstsCard

/-- THE TIED CARD OF 'embrasurelaw04.CrcMixes'. -/
def crcMixesCard : Claim7 := { stood := { row := crcMixesRow, standIns := [], harness := (true, "e97a27e845610eb075d9c8ee78b4bb4c533d04469a2c99280ac464187ce753d1"), looks := false }, kinds := [], alts := [], laidByText := true, laidKinds := [.data], laidTests := true, laidLooks := .later }
def CrcMixesCardSaid : Prop := Claim7.holds Tryd.pinned (.plain (OpenSpec.ofChange crcMixesSpec)) crcMixesCard

/-- THE TIED CARD OF 'embrasurelaw04.CrcNoughts'. -/
def crcNoughtsCard : Claim7 := { stood := { row := crcNoughtsRow, standIns := [], harness := (true, "e97a27e845610eb075d9c8ee78b4bb4c533d04469a2c99280ac464187ce753d1"), looks := false }, kinds := [], alts := [], laidByText := true, laidKinds := [.data], laidTests := true, laidLooks := .later }
def CrcNoughtsCardSaid : Prop := Claim7.holds Tryd.pinned (.plain (OpenSpec.ofChange crcNoughtsSpec)) crcNoughtsCard

/-- THE SECOND FORM's CARD OF 'embrasurelaw04.CrcTells'. -/
def crcTellsUptoCard : Claim7 := { stood := { row := crcTellsUptoRow, standIns := [], harness := (true, "e97a27e845610eb075d9c8ee78b4bb4c533d04469a2c99280ac464187ce753d1"), looks := false }, kinds := [], alts := [], laidByText := true, laidKinds := [.data], laidTests := true, laidLooks := .later }
def CrcTellsUptoCardSaid : Prop := Claim7.holds Tryd.pinned (.plain (OpenSpec.upto crcTellsSpec)) crcTellsUptoCard

/-- THE SECOND FORM's CARD OF 'embrasurelaw04.CrcPieces'. -/
def crcPiecesUptoCard : Claim7 := { stood := { row := crcPiecesUptoRow, standIns := [], harness := (true, "e97a27e845610eb075d9c8ee78b4bb4c533d04469a2c99280ac464187ce753d1"), looks := false }, kinds := [], alts := [], laidByText := true, laidKinds := [.data], laidTests := true, laidLooks := .later }
def CrcPiecesUptoCardSaid : Prop := Claim7.holds Tryd.pinned (.plain (OpenSpec.upto crcPiecesSpec)) crcPiecesUptoCard

/-- THE SECOND FORM's CARD OF 'embrasurelaw04.CrcBursts'. -/
def crcBurstsUptoCard : Claim7 := { stood := { row := crcBurstsUptoRow, standIns := [], harness := (true, "e97a27e845610eb075d9c8ee78b4bb4c533d04469a2c99280ac464187ce753d1"), looks := false }, kinds := [], alts := [], laidByText := true, laidKinds := [.data], laidTests := true, laidLooks := .later }
def CrcBurstsUptoCardSaid : Prop := Claim7.holds Tryd.pinned (.plain (OpenSpec.upto crcBurstsSpec)) crcBurstsUptoCard

/-- THE SECOND FORM's CARD OF 'embrasurelaw04.CrcMixes'. -/
def crcMixesUptoCard : Claim7 := { stood := { row := crcMixesUptoRow, standIns := [], harness := (true, "e97a27e845610eb075d9c8ee78b4bb4c533d04469a2c99280ac464187ce753d1"), looks := false }, kinds := [], alts := [], laidByText := true, laidKinds := [.data], laidTests := true, laidLooks := .later }
def CrcMixesUptoCardSaid : Prop := Claim7.holds Tryd.pinned (.plain (OpenSpec.upto crcMixesSpec)) crcMixesUptoCard

/-- THE SECOND FORM's CARD OF 'embrasurelaw04.CrcNoughts'. -/
def crcNoughtsUptoCard : Claim7 := { stood := { row := crcNoughtsUptoRow, standIns := [], harness := (true, "e97a27e845610eb075d9c8ee78b4bb4c533d04469a2c99280ac464187ce753d1"), looks := false }, kinds := [], alts := [], laidByText := true, laidKinds := [.data], laidTests := true, laidLooks := .later }
def CrcNoughtsUptoCardSaid : Prop := Claim7.holds Tryd.pinned (.plain (OpenSpec.upto crcNoughtsSpec)) crcNoughtsUptoCard
end Rows
end Go.Proofs.YtefgcbdfimpaoaaDoor
