/-
  NARROWER THAN 'FOR EVERY INPUT', by the rows' own cells (each row's printed sentence says how): CrcTells: laid · CrcPieces: laid · CrcBursts: laid · CrcMixes: laid · CrcNoughts: laid.
  DERIVED. THE GIVEN ROWS OF THIS SEAT. 5 by the template 'for every input the law returns true; each argument reads behind the call as it read before'; 0 by the template 'total and deterministic' (their statements: YtefgcbdfimpaoaaDoorTotals.lean).
  GIVEN WITH THE SEED: the statements are not yours to turn. If you find one false, say at which input.
  Laid BY PROGRAM, IN A SANDBOX (cutbox-rows.mjs): the forced cells as the released guide's own fill.sh prints them over the translation dd924fe334c24c97… (all of the seat's roots in one cut). By AI agents, Wed Nov 11 2026. No macro, syntax, notation, axiom, sorry.
-/
import Derived.Test.YtefgcbdfimpaoaaDoorChecked
import GoSem.Claim
import GoSem.ClaimJoined
import GoSem.ClaimMapViews
import Derived.JoinedTies
import Derived.KernelRfl
namespace Go.Proofs.YtefgcbdfimpaoaaDoor
/- THE CELL 'sum', in the pinned program and in every row, IS THE sha256 OF THE DUMP (.gsa) THAT YtefgcbdfimpaoaaDoorProg.lean LOADS. Nothing in Lean hashes anything: it is a label: what it is worth is what the hold of that sum in a sandbox is worth. -/
noncomputable def Tryd.pinned : Pinned := { name := "ytefgcbdfimpaoaadoor", sum := "dd924fe334c24c970739677e6aebdc52d7ddbd736868fd2d2d27e8f0e389cf78", checked := Tryd.checked }
namespace Rows
def none {H : Type} : Left H := { results := [], args := [] }

/- WHAT THE LISTED PACKAGE-LEVEL VARIABLES READ AS WHEN THE CALL BEGINS. Each datum BY PROGRAM (the guide's laid-datum.mjs) off the statement by which the dump's own 'gosem.cut.vars' lays the variable. In a bare row this is a premise. The card (YtefgcbdfimpaoaaDoorCards.lean) ties it to the program's text. -/
def laid_embrasure_crc_halves {H : Type} : DataW H := .agg [.lit (.int .u16 0), .lit (.int .u16 4129), .lit (.int .u16 8258), .lit (.int .u16 12387), .lit (.int .u16 16516), .lit (.int .u16 20645), .lit (.int .u16 24774), .lit (.int .u16 28903), .lit (.int .u16 33032), .lit (.int .u16 37161), .lit (.int .u16 41290), .lit (.int .u16 45419), .lit (.int .u16 49548), .lit (.int .u16 53677), .lit (.int .u16 57806), .lit (.int .u16 61935)]

/-- 'embrasurelaw04.CrcTells': WHATEVER THE INPUT: true; the input reads as it did. -/
def crcTellsSpec : ChangeSpec := { name := "crcTells", fn := fun _ => fun
  | [d1, d2] => { results := [.lit (.bool true)], args := [d1, d2] }
  | _ => none }
def crcTellsRow : OpenClaim := { program := "ytefgcbdfimpaoaadoor", sum := "dd924fe334c24c970739677e6aebdc52d7ddbd736868fd2d2d27e8f0e389cf78", func := "embrasure/embrasurelaw04.CrcTells", spec := "crcTells", named := ["embrasure/crc.halves"], apart := false, laid := [("embrasure/crc.halves", laid_embrasure_crc_halves)] }
def CrcTellsSaid : Prop := crcTellsRow.holds Tryd.pinned (OpenSpec.ofChange crcTellsSpec)

/-- ITS FALSE NEIGHBOUR: 'it returns false'. Refute it at one input. -/
def crcTellsWrong : ChangeSpec := { name := "crcTells", fn := fun _ => fun
  | [d1, d2] => { results := [.lit (.bool false)], args := [d1, d2] }
  | _ => none }
def CrcTellsWrongFalsely : Prop := crcTellsRow.holds Tryd.pinned (OpenSpec.ofChange crcTellsWrong)

/-- 'embrasurelaw04.CrcPieces': WHATEVER THE INPUT: true; the input reads as it did. -/
def crcPiecesSpec : ChangeSpec := { name := "crcPieces", fn := fun _ => fun
  | [d] => { results := [.lit (.bool true)], args := [d] }
  | _ => none }
def crcPiecesRow : OpenClaim := { program := "ytefgcbdfimpaoaadoor", sum := "dd924fe334c24c970739677e6aebdc52d7ddbd736868fd2d2d27e8f0e389cf78", func := "embrasure/embrasurelaw04.CrcPieces", spec := "crcPieces", named := ["embrasure/crc.halves"], apart := false, laid := [("embrasure/crc.halves", laid_embrasure_crc_halves)] }
def CrcPiecesSaid : Prop := crcPiecesRow.holds Tryd.pinned (OpenSpec.ofChange crcPiecesSpec)

/-- ITS FALSE NEIGHBOUR: 'it returns false'. Refute it at one input. -/
def crcPiecesWrong : ChangeSpec := { name := "crcPieces", fn := fun _ => fun
  | [d] => { results := [.lit (.bool false)], args := [d] }
  | _ => none }
def CrcPiecesWrongFalsely : Prop := crcPiecesRow.holds Tryd.pinned (OpenSpec.ofChange crcPiecesWrong)

/-- 'embrasurelaw04.CrcBursts': WHATEVER THE INPUT: true; the input reads as it did. -/
def crcBurstsSpec : ChangeSpec := { name := "crcBursts", fn := fun _ => fun
  | [d1, d2, d3] => { results := [.lit (.bool true)], args := [d1, d2, d3] }
  | _ => none }
def crcBurstsRow : OpenClaim := { program := "ytefgcbdfimpaoaadoor", sum := "dd924fe334c24c970739677e6aebdc52d7ddbd736868fd2d2d27e8f0e389cf78", func := "embrasure/embrasurelaw04.CrcBursts", spec := "crcBursts", named := ["embrasure/crc.halves"], apart := false, laid := [("embrasure/crc.halves", laid_embrasure_crc_halves)] }
def CrcBurstsSaid : Prop := crcBurstsRow.holds Tryd.pinned (OpenSpec.ofChange crcBurstsSpec)

/-- ITS FALSE NEIGHBOUR: 'it returns false'. Refute it at one input. -/
def crcBurstsWrong : ChangeSpec := { name := "crcBursts", fn := fun _ => fun
  | [d1, d2, d3] => { results := [.lit (.bool false)], args := [d1, d2, d3] }
  | _ => none }
def CrcBurstsWrongFalsely : Prop := crcBurstsRow.holds Tryd.pinned (OpenSpec.ofChange crcBurstsWrong)

/-- 'embrasurelaw04.CrcMixes': WHATEVER THE INPUT: true; the input reads as it did. -/
def crcMixesSpec : ChangeSpec := { name := "crcMixes", fn := fun _ => fun
  | [d1, d2, d3, d4, d5] => { results := [.lit (.bool true)], args := [d1, d2, d3, d4, d5] }
  | _ => none }
def crcMixesRow : OpenClaim := { program := "ytefgcbdfimpaoaadoor", sum := "dd924fe334c24c970739677e6aebdc52d7ddbd736868fd2d2d27e8f0e389cf78", func := "embrasure/embrasurelaw04.CrcMixes", spec := "crcMixes", named := ["embrasure/crc.halves"], apart := false, laid := [("embrasure/crc.halves", laid_embrasure_crc_halves)] }
def CrcMixesSaid : Prop := crcMixesRow.holds Tryd.pinned (OpenSpec.ofChange crcMixesSpec)

/-- ITS FALSE NEIGHBOUR: 'it returns false'. Refute it at one input. -/
def crcMixesWrong : ChangeSpec := { name := "crcMixes", fn := fun _ => fun
  | [d1, d2, d3, d4, d5] => { results := [.lit (.bool false)], args := [d1, d2, d3, d4, d5] }
  | _ => none }
def CrcMixesWrongFalsely : Prop := crcMixesRow.holds Tryd.pinned (OpenSpec.ofChange crcMixesWrong)

/-- 'embrasurelaw04.CrcNoughts': WHATEVER THE INPUT: true; the input reads as it did. -/
def crcNoughtsSpec : ChangeSpec := { name := "crcNoughts", fn := fun _ => fun
  | [d] => { results := [.lit (.bool true)], args := [d] }
  | _ => none }
def crcNoughtsRow : OpenClaim := { program := "ytefgcbdfimpaoaadoor", sum := "dd924fe334c24c970739677e6aebdc52d7ddbd736868fd2d2d27e8f0e389cf78", func := "embrasure/embrasurelaw04.CrcNoughts", spec := "crcNoughts", named := ["embrasure/crc.halves"], apart := false, laid := [("embrasure/crc.halves", laid_embrasure_crc_halves)] }
def CrcNoughtsSaid : Prop := crcNoughtsRow.holds Tryd.pinned (OpenSpec.ofChange crcNoughtsSpec)

/-- ITS FALSE NEIGHBOUR: 'it returns false'. Refute it at one input. -/
def crcNoughtsWrong : ChangeSpec := { name := "crcNoughts", fn := fun _ => fun
  | [d] => { results := [.lit (.bool false)], args := [d] }
  | _ => none }
def CrcNoughtsWrongFalsely : Prop := crcNoughtsRow.holds Tryd.pinned (OpenSpec.ofChange crcNoughtsWrong)

/- THE SECOND FORM. 'bulk': how many values and letters a reading holds, each counted each time it is reached (what is shared counts as often as it is met; a slice's spare places count too). A statement '..UptoSaid' is the law's where the arguments, and the package variables that the reading takes, are together of bulk at most 1048576: NARROWER than '..Said'. Prove '..Said' where nothing that the law and all that it calls make is longer than what came in: it says more and counts as full. Else prove '..UptoSaid'. A law counts once. -/
mutual
def uptoBulk {H : Type} : DataW H → Nat
  | .lit (.string bytes) => bytes.length + 1
  | .lit _ => 1
  | .nil => 1
  | .ptr d => uptoBulk d + 1
  | .slice elems spare => uptoBulkAll elems + uptoBulkAll spare + 1
  | .agg parts => uptoBulkAll parts + 1
  | .iface _ d => uptoBulk d + 1
  | .map entries => uptoBulkEntries entries + 1
  | .held _ => 1
def uptoBulkAll {H : Type} : List (DataW H) → Nat
  | [] => 0
  | d :: r => uptoBulk d + uptoBulkAll r
def uptoBulkEntries {H : Type} : List (Lit × DataW H) → Nat
  | [] => 0
  | x :: r => uptoBulkEntry x + uptoBulkEntries r
def uptoBulkEntry {H : Type} : Lit × DataW H → Nat
  | (.string bytes, d) => bytes.length + uptoBulk d + 1
  | (_, d) => uptoBulk d + 1
 end
def uptoSmall : (H : Type) → List (DataW H) → Bool := fun _ ds => decide (uptoBulkAll ds ≤ 1048576)
def OpenSpec.upto (s : _root_.Go.ChangeSpec) : _root_.Go.OpenSpec := { _root_.Go.OpenSpec.ofChange s with cond := some uptoSmall }

/-- 'embrasurelaw04.CrcTells', WHERE WHAT IT READS IS OF BULK AT MOST 1048576: true; the input reads as it did. -/
def crcTellsUptoRow : OpenClaim := { program := "ytefgcbdfimpaoaadoor", sum := "dd924fe334c24c970739677e6aebdc52d7ddbd736868fd2d2d27e8f0e389cf78", func := "embrasure/embrasurelaw04.CrcTells", spec := "crcTells", named := ["embrasure/crc.halves"], apart := false, laid := [("embrasure/crc.halves", laid_embrasure_crc_halves)], narrowed := true }
def CrcTellsUptoSaid : Prop := crcTellsUptoRow.holds Tryd.pinned (OpenSpec.upto crcTellsSpec)

/-- 'embrasurelaw04.CrcPieces', WHERE WHAT IT READS IS OF BULK AT MOST 1048576: true; the input reads as it did. -/
def crcPiecesUptoRow : OpenClaim := { program := "ytefgcbdfimpaoaadoor", sum := "dd924fe334c24c970739677e6aebdc52d7ddbd736868fd2d2d27e8f0e389cf78", func := "embrasure/embrasurelaw04.CrcPieces", spec := "crcPieces", named := ["embrasure/crc.halves"], apart := false, laid := [("embrasure/crc.halves", laid_embrasure_crc_halves)], narrowed := true }
def CrcPiecesUptoSaid : Prop := crcPiecesUptoRow.holds Tryd.pinned (OpenSpec.upto crcPiecesSpec)

/-- 'embrasurelaw04.CrcBursts', WHERE WHAT IT READS IS OF BULK AT MOST 1048576: true; the input reads as it did. -/
def crcBurstsUptoRow : OpenClaim := { program := "ytefgcbdfimpaoaadoor", sum := "dd924fe334c24c970739677e6aebdc52d7ddbd736868fd2d2d27e8f0e389cf78", func := "embrasure/embrasurelaw04.CrcBursts", spec := "crcBursts", named := ["embrasure/crc.halves"], apart := false, laid := [("embrasure/crc.halves", laid_embrasure_crc_halves)], narrowed := true }
def CrcBurstsUptoSaid : Prop := crcBurstsUptoRow.holds Tryd.pinned (OpenSpec.upto crcBurstsSpec)

/-- 'embrasurelaw04.CrcMixes', WHERE WHAT IT READS IS OF BULK AT MOST 1048576: true; the input reads as it did. -/
def crcMixesUptoRow : OpenClaim := { program := "ytefgcbdfimpaoaadoor", sum := "dd924fe334c24c970739677e6aebdc52d7ddbd736868fd2d2d27e8f0e389cf78", func := "embrasure/embrasurelaw04.CrcMixes", spec := "crcMixes", named := ["embrasure/crc.halves"], apart := false, laid := [("embrasure/crc.halves", laid_embrasure_crc_halves)], narrowed := true }
def CrcMixesUptoSaid : Prop := crcMixesUptoRow.holds Tryd.pinned (OpenSpec.upto crcMixesSpec)

/-- 'embrasurelaw04.CrcNoughts', WHERE WHAT IT READS IS OF BULK AT MOST 1048576: true; the input reads as it did. -/
def crcNoughtsUptoRow : OpenClaim := { program := "ytefgcbdfimpaoaadoor", sum := "dd924fe334c24c970739677e6aebdc52d7ddbd736868fd2d2d27e8f0e389cf78", func := "embrasure/embrasurelaw04.CrcNoughts", spec := "crcNoughts", named := ["embrasure/crc.halves"], apart := false, laid := [("embrasure/crc.halves", laid_embrasure_crc_halves)], narrowed := true }
def CrcNoughtsUptoSaid : Prop := crcNoughtsUptoRow.holds Tryd.pinned (OpenSpec.upto crcNoughtsSpec)

end Rows
end Go.Proofs.YtefgcbdfimpaoaaDoor
