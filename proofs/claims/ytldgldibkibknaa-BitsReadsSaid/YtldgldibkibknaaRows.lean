/-
  No cell of these rows narrows 'for every input' (looked for: loops, veiled, ifaces, maps, wideKeys, modest, calm, conditions, laid).
  DERIVED. THE GIVEN ROWS OF THIS SEAT. 8 by the template 'for every input the law returns true; each argument reads behind the call as it read before'; 0 by the template 'total and deterministic' (their statements: YtldgldibkibknaaTotals.lean).
  GIVEN WITH THE SEED: the statements are not yours to turn. If you find one false, say at which input.
  Laid BY PROGRAM, IN A SANDBOX (cutbox-rows.mjs): the forced cells as the released guide's own fill.sh prints them over the translation 8eb09bc2feb46480… (all of the seat's roots in one cut). By AI agents, Wed Nov 11 2026. No macro, syntax, notation, axiom, sorry.
-/
import Derived.Test.YtldgldibkibknaaChecked
import GoSem.Claim
import GoSem.ClaimJoined
import GoSem.ClaimMapViews
import Derived.JoinedTies
import Derived.KernelRfl
namespace Go.Proofs.Ytldgldibkibknaa
/- THE CELL 'sum', in the pinned program and in every row, IS THE sha256 OF THE DUMP (.gsa) THAT YtldgldibkibknaaProg.lean LOADS. Nothing in Lean hashes anything: it is a label: what it is worth is what the hold of that sum in a sandbox is worth. -/
noncomputable def Try.pinned : Pinned := { name := "ytldgldibkibknaa", sum := "8eb09bc2feb464806bf62cacb7bcf23ee0c1b944fd735476ce21ae2eb7aa5501", checked := Try.checked }
namespace Rows
def none {H : Type} : Left H := { results := [], args := [] }

/-- 'embrasurelaw03.BitsWrites': WHATEVER THE INPUT: true; the input reads as it did. -/
def bitsWritesSpec : ChangeSpec := { name := "bitsWrites", fn := fun _ => fun
  | [d] => { results := [.lit (.bool true)], args := [d] }
  | _ => none }
def bitsWritesRow : OpenClaim := { program := "ytldgldibkibknaa", sum := "8eb09bc2feb464806bf62cacb7bcf23ee0c1b944fd735476ce21ae2eb7aa5501", func := "embrasure/embrasurelaw03.BitsWrites", spec := "bitsWrites", unfollowed := true, recurses := true, apart := false }
def BitsWritesSaid : Prop := bitsWritesRow.holds Try.pinned (OpenSpec.ofChange bitsWritesSpec)

/-- ITS FALSE NEIGHBOUR: 'it returns false'. Refute it at one input. -/
def bitsWritesWrong : ChangeSpec := { name := "bitsWrites", fn := fun _ => fun
  | [d] => { results := [.lit (.bool false)], args := [d] }
  | _ => none }
def BitsWritesWrongFalsely : Prop := bitsWritesRow.holds Try.pinned (OpenSpec.ofChange bitsWritesWrong)

/-- 'embrasurelaw03.BitsJoins': WHATEVER THE INPUT: true; the input reads as it did. -/
def bitsJoinsSpec : ChangeSpec := { name := "bitsJoins", fn := fun _ => fun
  | [d1, d2, d3] => { results := [.lit (.bool true)], args := [d1, d2, d3] }
  | _ => none }
def bitsJoinsRow : OpenClaim := { program := "ytldgldibkibknaa", sum := "8eb09bc2feb464806bf62cacb7bcf23ee0c1b944fd735476ce21ae2eb7aa5501", func := "embrasure/embrasurelaw03.BitsJoins", spec := "bitsJoins", unfollowed := true, recurses := true, apart := false }
def BitsJoinsSaid : Prop := bitsJoinsRow.holds Try.pinned (OpenSpec.ofChange bitsJoinsSpec)

/-- ITS FALSE NEIGHBOUR: 'it returns false'. Refute it at one input. -/
def bitsJoinsWrong : ChangeSpec := { name := "bitsJoins", fn := fun _ => fun
  | [d1, d2, d3] => { results := [.lit (.bool false)], args := [d1, d2, d3] }
  | _ => none }
def BitsJoinsWrongFalsely : Prop := bitsJoinsRow.holds Try.pinned (OpenSpec.ofChange bitsJoinsWrong)

/-- 'embrasurelaw03.BitsWhole': WHATEVER THE INPUT: true; the input reads as it did. -/
def bitsWholeSpec : ChangeSpec := { name := "bitsWhole", fn := fun _ => fun
  | [d] => { results := [.lit (.bool true)], args := [d] }
  | _ => none }
def bitsWholeRow : OpenClaim := { program := "ytldgldibkibknaa", sum := "8eb09bc2feb464806bf62cacb7bcf23ee0c1b944fd735476ce21ae2eb7aa5501", func := "embrasure/embrasurelaw03.BitsWhole", spec := "bitsWhole", unfollowed := true, recurses := true, apart := false }
def BitsWholeSaid : Prop := bitsWholeRow.holds Try.pinned (OpenSpec.ofChange bitsWholeSpec)

/-- ITS FALSE NEIGHBOUR: 'it returns false'. Refute it at one input. -/
def bitsWholeWrong : ChangeSpec := { name := "bitsWhole", fn := fun _ => fun
  | [d] => { results := [.lit (.bool false)], args := [d] }
  | _ => none }
def BitsWholeWrongFalsely : Prop := bitsWholeRow.holds Try.pinned (OpenSpec.ofChange bitsWholeWrong)

/-- 'embrasurelaw03.BitsCount': WHATEVER THE INPUT: true; the input reads as it did. -/
def bitsCountSpec : ChangeSpec := { name := "bitsCount", fn := fun _ => fun
  | [d] => { results := [.lit (.bool true)], args := [d] }
  | _ => none }
def bitsCountRow : OpenClaim := { program := "ytldgldibkibknaa", sum := "8eb09bc2feb464806bf62cacb7bcf23ee0c1b944fd735476ce21ae2eb7aa5501", func := "embrasure/embrasurelaw03.BitsCount", spec := "bitsCount", unfollowed := true, recurses := true, apart := false }
def BitsCountSaid : Prop := bitsCountRow.holds Try.pinned (OpenSpec.ofChange bitsCountSpec)

/-- ITS FALSE NEIGHBOUR: 'it returns false'. Refute it at one input. -/
def bitsCountWrong : ChangeSpec := { name := "bitsCount", fn := fun _ => fun
  | [d] => { results := [.lit (.bool false)], args := [d] }
  | _ => none }
def BitsCountWrongFalsely : Prop := bitsCountRow.holds Try.pinned (OpenSpec.ofChange bitsCountWrong)

/-- 'embrasurelaw03.BitsApart': WHATEVER THE INPUT: true; the input reads as it did. -/
def bitsApartSpec : ChangeSpec := { name := "bitsApart", fn := fun _ => fun
  | [d1, d2] => { results := [.lit (.bool true)], args := [d1, d2] }
  | _ => none }
def bitsApartRow : OpenClaim := { program := "ytldgldibkibknaa", sum := "8eb09bc2feb464806bf62cacb7bcf23ee0c1b944fd735476ce21ae2eb7aa5501", func := "embrasure/embrasurelaw03.BitsApart", spec := "bitsApart", unfollowed := true, recurses := true, apart := false }
def BitsApartSaid : Prop := bitsApartRow.holds Try.pinned (OpenSpec.ofChange bitsApartSpec)

/-- ITS FALSE NEIGHBOUR: 'it returns false'. Refute it at one input. -/
def bitsApartWrong : ChangeSpec := { name := "bitsApart", fn := fun _ => fun
  | [d1, d2] => { results := [.lit (.bool false)], args := [d1, d2] }
  | _ => none }
def BitsApartWrongFalsely : Prop := bitsApartRow.holds Try.pinned (OpenSpec.ofChange bitsApartWrong)

/-- 'embrasurelaw03.BitsReads': WHATEVER THE INPUT: true; the input reads as it did. -/
def bitsReadsSpec : ChangeSpec := { name := "bitsReads", fn := fun _ => fun
  | [d1, d2] => { results := [.lit (.bool true)], args := [d1, d2] }
  | _ => none }
def bitsReadsRow : OpenClaim := { program := "ytldgldibkibknaa", sum := "8eb09bc2feb464806bf62cacb7bcf23ee0c1b944fd735476ce21ae2eb7aa5501", func := "embrasure/embrasurelaw03.BitsReads", spec := "bitsReads", unfollowed := true, recurses := true, apart := false }
def BitsReadsSaid : Prop := bitsReadsRow.holds Try.pinned (OpenSpec.ofChange bitsReadsSpec)

/-- ITS FALSE NEIGHBOUR: 'it returns false'. Refute it at one input. -/
def bitsReadsWrong : ChangeSpec := { name := "bitsReads", fn := fun _ => fun
  | [d1, d2] => { results := [.lit (.bool false)], args := [d1, d2] }
  | _ => none }
def BitsReadsWrongFalsely : Prop := bitsReadsRow.holds Try.pinned (OpenSpec.ofChange bitsReadsWrong)

/-- 'embrasurelaw03.BitsBack': WHATEVER THE INPUT: true; the input reads as it did. -/
def bitsBackSpec : ChangeSpec := { name := "bitsBack", fn := fun _ => fun
  | [d] => { results := [.lit (.bool true)], args := [d] }
  | _ => none }
def bitsBackRow : OpenClaim := { program := "ytldgldibkibknaa", sum := "8eb09bc2feb464806bf62cacb7bcf23ee0c1b944fd735476ce21ae2eb7aa5501", func := "embrasure/embrasurelaw03.BitsBack", spec := "bitsBack", unfollowed := true, recurses := true, apart := false }
def BitsBackSaid : Prop := bitsBackRow.holds Try.pinned (OpenSpec.ofChange bitsBackSpec)

/-- ITS FALSE NEIGHBOUR: 'it returns false'. Refute it at one input. -/
def bitsBackWrong : ChangeSpec := { name := "bitsBack", fn := fun _ => fun
  | [d] => { results := [.lit (.bool false)], args := [d] }
  | _ => none }
def BitsBackWrongFalsely : Prop := bitsBackRow.holds Try.pinned (OpenSpec.ofChange bitsBackWrong)

/-- 'embrasurelaw03.BitsFew': WHATEVER THE INPUT: true; the input reads as it did. -/
def bitsFewSpec : ChangeSpec := { name := "bitsFew", fn := fun _ => fun
  | [d1, d2] => { results := [.lit (.bool true)], args := [d1, d2] }
  | _ => none }
def bitsFewRow : OpenClaim := { program := "ytldgldibkibknaa", sum := "8eb09bc2feb464806bf62cacb7bcf23ee0c1b944fd735476ce21ae2eb7aa5501", func := "embrasure/embrasurelaw03.BitsFew", spec := "bitsFew", unfollowed := true, recurses := true, apart := false }
def BitsFewSaid : Prop := bitsFewRow.holds Try.pinned (OpenSpec.ofChange bitsFewSpec)

/-- ITS FALSE NEIGHBOUR: 'it returns false'. Refute it at one input. -/
def bitsFewWrong : ChangeSpec := { name := "bitsFew", fn := fun _ => fun
  | [d1, d2] => { results := [.lit (.bool false)], args := [d1, d2] }
  | _ => none }
def BitsFewWrongFalsely : Prop := bitsFewRow.holds Try.pinned (OpenSpec.ofChange bitsFewWrong)

/- THE SECOND FORM. 'bulk': how many values and letters a reading holds, each counted each time it is reached (what is shared counts as often as it is met; a slice's spare places count too). A statement '..UptoSaid' is the law's where the arguments, and the package variables that the reading takes, are together of bulk at most 1048576: NARROWER than '..Said'. Prove '..Said' where nothing that the law and all that it calls make is longer than what came in: it says more and counts as full. Else prove '..UptoSaid'. A law counts once. -/
mutual
def uptoBulk {H : Type} : DataW H → Nat
  | .lit (.string bytes) => bytes.length + 1
  | .lit _ => 1
  | .nil => 1
  | .ptr d => uptoBulk d + 1
  | .slice elems spare => uptoBulkAll elems + uptoBulkAll spare + 1
  | .agg parts => uptoBulkAll parts + 1
  | .iface _ d => uptoBulk d + 1
  | .map entries => uptoBulkEntries entries + 1
  | .held _ => 1
def uptoBulkAll {H : Type} : List (DataW H) → Nat
  | [] => 0
  | d :: r => uptoBulk d + uptoBulkAll r
def uptoBulkEntries {H : Type} : List (Lit × DataW H) → Nat
  | [] => 0
  | x :: r => uptoBulkEntry x + uptoBulkEntries r
def uptoBulkEntry {H : Type} : Lit × DataW H → Nat
  | (.string bytes, d) => bytes.length + uptoBulk d + 1
  | (_, d) => uptoBulk d + 1
 end
def uptoSmall : (H : Type) → List (DataW H) → Bool := fun _ ds => decide (uptoBulkAll ds ≤ 1048576)
def OpenSpec.upto (s : _root_.Go.ChangeSpec) : _root_.Go.OpenSpec := { _root_.Go.OpenSpec.ofChange s with cond := some uptoSmall }

/-- 'embrasurelaw03.BitsWrites', WHERE WHAT IT READS IS OF BULK AT MOST 1048576: true; the input reads as it did. -/
def bitsWritesUptoRow : OpenClaim := { program := "ytldgldibkibknaa", sum := "8eb09bc2feb464806bf62cacb7bcf23ee0c1b944fd735476ce21ae2eb7aa5501", func := "embrasure/embrasurelaw03.BitsWrites", spec := "bitsWrites", unfollowed := true, recurses := true, apart := false, narrowed := true }
def BitsWritesUptoSaid : Prop := bitsWritesUptoRow.holds Try.pinned (OpenSpec.upto bitsWritesSpec)

/-- 'embrasurelaw03.BitsJoins', WHERE WHAT IT READS IS OF BULK AT MOST 1048576: true; the input reads as it did. -/
def bitsJoinsUptoRow : OpenClaim := { program := "ytldgldibkibknaa", sum := "8eb09bc2feb464806bf62cacb7bcf23ee0c1b944fd735476ce21ae2eb7aa5501", func := "embrasure/embrasurelaw03.BitsJoins", spec := "bitsJoins", unfollowed := true, recurses := true, apart := false, narrowed := true }
def BitsJoinsUptoSaid : Prop := bitsJoinsUptoRow.holds Try.pinned (OpenSpec.upto bitsJoinsSpec)

/-- 'embrasurelaw03.BitsWhole', WHERE WHAT IT READS IS OF BULK AT MOST 1048576: true; the input reads as it did. -/
def bitsWholeUptoRow : OpenClaim := { program := "ytldgldibkibknaa", sum := "8eb09bc2feb464806bf62cacb7bcf23ee0c1b944fd735476ce21ae2eb7aa5501", func := "embrasure/embrasurelaw03.BitsWhole", spec := "bitsWhole", unfollowed := true, recurses := true, apart := false, narrowed := true }
def BitsWholeUptoSaid : Prop := bitsWholeUptoRow.holds Try.pinned (OpenSpec.upto bitsWholeSpec)

/-- 'embrasurelaw03.BitsCount', WHERE WHAT IT READS IS OF BULK AT MOST 1048576: true; the input reads as it did. -/
def bitsCountUptoRow : OpenClaim := { program := "ytldgldibkibknaa", sum := "8eb09bc2feb464806bf62cacb7bcf23ee0c1b944fd735476ce21ae2eb7aa5501", func := "embrasure/embrasurelaw03.BitsCount", spec := "bitsCount", unfollowed := true, recurses := true, apart := false, narrowed := true }
def BitsCountUptoSaid : Prop := bitsCountUptoRow.holds Try.pinned (OpenSpec.upto bitsCountSpec)

/-- 'embrasurelaw03.BitsApart', WHERE WHAT IT READS IS OF BULK AT MOST 1048576: true; the input reads as it did. -/
def bitsApartUptoRow : OpenClaim := { program := "ytldgldibkibknaa", sum := "8eb09bc2feb464806bf62cacb7bcf23ee0c1b944fd735476ce21ae2eb7aa5501", func := "embrasure/embrasurelaw03.BitsApart", spec := "bitsApart", unfollowed := true, recurses := true, apart := false, narrowed := true }
def BitsApartUptoSaid : Prop := bitsApartUptoRow.holds Try.pinned (OpenSpec.upto bitsApartSpec)

/-- 'embrasurelaw03.BitsReads', WHERE WHAT IT READS IS OF BULK AT MOST 1048576: true; the input reads as it did. -/
def bitsReadsUptoRow : OpenClaim := { program := "ytldgldibkibknaa", sum := "8eb09bc2feb464806bf62cacb7bcf23ee0c1b944fd735476ce21ae2eb7aa5501", func := "embrasure/embrasurelaw03.BitsReads", spec := "bitsReads", unfollowed := true, recurses := true, apart := false, narrowed := true }
def BitsReadsUptoSaid : Prop := bitsReadsUptoRow.holds Try.pinned (OpenSpec.upto bitsReadsSpec)

/-- 'embrasurelaw03.BitsBack', WHERE WHAT IT READS IS OF BULK AT MOST 1048576: true; the input reads as it did. -/
def bitsBackUptoRow : OpenClaim := { program := "ytldgldibkibknaa", sum := "8eb09bc2feb464806bf62cacb7bcf23ee0c1b944fd735476ce21ae2eb7aa5501", func := "embrasure/embrasurelaw03.BitsBack", spec := "bitsBack", unfollowed := true, recurses := true, apart := false, narrowed := true }
def BitsBackUptoSaid : Prop := bitsBackUptoRow.holds Try.pinned (OpenSpec.upto bitsBackSpec)

/-- 'embrasurelaw03.BitsFew', WHERE WHAT IT READS IS OF BULK AT MOST 1048576: true; the input reads as it did. -/
def bitsFewUptoRow : OpenClaim := { program := "ytldgldibkibknaa", sum := "8eb09bc2feb464806bf62cacb7bcf23ee0c1b944fd735476ce21ae2eb7aa5501", func := "embrasure/embrasurelaw03.BitsFew", spec := "bitsFew", unfollowed := true, recurses := true, apart := false, narrowed := true }
def BitsFewUptoSaid : Prop := bitsFewUptoRow.holds Try.pinned (OpenSpec.upto bitsFewSpec)

end Rows
end Go.Proofs.Ytldgldibkibknaa
