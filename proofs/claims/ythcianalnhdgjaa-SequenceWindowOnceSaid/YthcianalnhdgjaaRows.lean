/-
  No cell of these rows narrows 'for every input' (looked for: loops, veiled, ifaces, maps, wideKeys, modest, calm, conditions, laid).
  DERIVED. THE GIVEN ROWS OF THIS SEAT. 7 by the template 'for every input the law returns true; each argument reads behind the call as it read before'; 0 by the template 'total and deterministic' (their statements: YthcianalnhdgjaaTotals.lean).
  GIVEN WITH THE SEED: the statements are not yours to turn. If you find one false, say at which input.
  Laid BY PROGRAM, IN A SANDBOX (cutbox-rows.mjs): the forced cells as the released guide's own fill.sh prints them over the translation 51ff437485857bd8… (all of the seat's roots in one cut). By AI agents, Wed Nov 11 2026. No macro, syntax, notation, axiom, sorry.
-/
import Derived.Test.YthcianalnhdgjaaChecked
import GoSem.Claim
import GoSem.ClaimJoined
import GoSem.ClaimMapViews
import Derived.JoinedTies
import Derived.KernelRfl
namespace Go.Proofs.Ythcianalnhdgjaa
/- THE CELL 'sum', in the pinned program and in every row, IS THE sha256 OF THE DUMP (.gsa) THAT YthcianalnhdgjaaProg.lean LOADS. Nothing in Lean hashes anything: it is a label: what it is worth is what the hold of that sum in a sandbox is worth. -/
noncomputable def Try.pinned : Pinned := { name := "ythcianalnhdgjaa", sum := "51ff437485857bd865c716d8cebdab15e20f915372efd6067b54d2de3aae09af", checked := Try.checked }
namespace Rows
def none {H : Type} : Left H := { results := [], args := [] }

/-- 'embrasurelaw06.SequenceTells': WHATEVER THE INPUT: true; the input reads as it did. -/
def sequenceTellsSpec : ChangeSpec := { name := "sequenceTells", fn := fun _ => fun
  | [d1, d2, d3] => { results := [.lit (.bool true)], args := [d1, d2, d3] }
  | _ => none }
def sequenceTellsRow : OpenClaim := { program := "ythcianalnhdgjaa", sum := "51ff437485857bd865c716d8cebdab15e20f915372efd6067b54d2de3aae09af", func := "embrasure/embrasurelaw06.SequenceTells", spec := "sequenceTells", apart := false }
def SequenceTellsSaid : Prop := sequenceTellsRow.holds Try.pinned (OpenSpec.ofChange sequenceTellsSpec)

/-- ITS FALSE NEIGHBOUR: 'it returns false'. Refute it at one input. -/
def sequenceTellsWrong : ChangeSpec := { name := "sequenceTells", fn := fun _ => fun
  | [d1, d2, d3] => { results := [.lit (.bool false)], args := [d1, d2, d3] }
  | _ => none }
def SequenceTellsWrongFalsely : Prop := sequenceTellsRow.holds Try.pinned (OpenSpec.ofChange sequenceTellsWrong)

/-- 'embrasurelaw06.SequenceWindowOnce': WHATEVER THE INPUT: true; the input reads as it did. -/
def sequenceWindowOnceSpec : ChangeSpec := { name := "sequenceWindowOnce", fn := fun _ => fun
  | [d1, d2] => { results := [.lit (.bool true)], args := [d1, d2] }
  | _ => none }
def sequenceWindowOnceRow : OpenClaim := { program := "ythcianalnhdgjaa", sum := "51ff437485857bd865c716d8cebdab15e20f915372efd6067b54d2de3aae09af", func := "embrasure/embrasurelaw06.SequenceWindowOnce", spec := "sequenceWindowOnce", apart := false }
def SequenceWindowOnceSaid : Prop := sequenceWindowOnceRow.holds Try.pinned (OpenSpec.ofChange sequenceWindowOnceSpec)

/-- ITS FALSE NEIGHBOUR: 'it returns false'. Refute it at one input. -/
def sequenceWindowOnceWrong : ChangeSpec := { name := "sequenceWindowOnce", fn := fun _ => fun
  | [d1, d2] => { results := [.lit (.bool false)], args := [d1, d2] }
  | _ => none }
def SequenceWindowOnceWrongFalsely : Prop := sequenceWindowOnceRow.holds Try.pinned (OpenSpec.ofChange sequenceWindowOnceWrong)

/-- 'embrasurelaw06.SequenceTurned': WHATEVER THE INPUT: true; the input reads as it did. -/
def sequenceTurnedSpec : ChangeSpec := { name := "sequenceTurned", fn := fun _ => fun
  | [d1, d2, d3] => { results := [.lit (.bool true)], args := [d1, d2, d3] }
  | _ => none }
def sequenceTurnedRow : OpenClaim := { program := "ythcianalnhdgjaa", sum := "51ff437485857bd865c716d8cebdab15e20f915372efd6067b54d2de3aae09af", func := "embrasure/embrasurelaw06.SequenceTurned", spec := "sequenceTurned", apart := false }
def SequenceTurnedSaid : Prop := sequenceTurnedRow.holds Try.pinned (OpenSpec.ofChange sequenceTurnedSpec)

/-- ITS FALSE NEIGHBOUR: 'it returns false'. Refute it at one input. -/
def sequenceTurnedWrong : ChangeSpec := { name := "sequenceTurned", fn := fun _ => fun
  | [d1, d2, d3] => { results := [.lit (.bool false)], args := [d1, d2, d3] }
  | _ => none }
def SequenceTurnedWrongFalsely : Prop := sequenceTurnedRow.holds Try.pinned (OpenSpec.ofChange sequenceTurnedWrong)

/-- 'embrasurelaw06.SequenceWindowOrder': WHATEVER THE INPUT: true; the input reads as it did. -/
def sequenceWindowOrderSpec : ChangeSpec := { name := "sequenceWindowOrder", fn := fun _ => fun
  | [d1, d2, d3] => { results := [.lit (.bool true)], args := [d1, d2, d3] }
  | _ => none }
def sequenceWindowOrderRow : OpenClaim := { program := "ythcianalnhdgjaa", sum := "51ff437485857bd865c716d8cebdab15e20f915372efd6067b54d2de3aae09af", func := "embrasure/embrasurelaw06.SequenceWindowOrder", spec := "sequenceWindowOrder", apart := false }
def SequenceWindowOrderSaid : Prop := sequenceWindowOrderRow.holds Try.pinned (OpenSpec.ofChange sequenceWindowOrderSpec)

/-- ITS FALSE NEIGHBOUR: 'it returns false'. Refute it at one input. -/
def sequenceWindowOrderWrong : ChangeSpec := { name := "sequenceWindowOrder", fn := fun _ => fun
  | [d1, d2, d3] => { results := [.lit (.bool false)], args := [d1, d2, d3] }
  | _ => none }
def SequenceWindowOrderWrongFalsely : Prop := sequenceWindowOrderRow.holds Try.pinned (OpenSpec.ofChange sequenceWindowOrderWrong)

/-- 'embrasurelaw06.SequenceWindowFar': WHATEVER THE INPUT: true; the input reads as it did. -/
def sequenceWindowFarSpec : ChangeSpec := { name := "sequenceWindowFar", fn := fun _ => fun
  | [d1, d2] => { results := [.lit (.bool true)], args := [d1, d2] }
  | _ => none }
def sequenceWindowFarRow : OpenClaim := { program := "ythcianalnhdgjaa", sum := "51ff437485857bd865c716d8cebdab15e20f915372efd6067b54d2de3aae09af", func := "embrasure/embrasurelaw06.SequenceWindowFar", spec := "sequenceWindowFar", apart := false }
def SequenceWindowFarSaid : Prop := sequenceWindowFarRow.holds Try.pinned (OpenSpec.ofChange sequenceWindowFarSpec)

/-- ITS FALSE NEIGHBOUR: 'it returns false'. Refute it at one input. -/
def sequenceWindowFarWrong : ChangeSpec := { name := "sequenceWindowFar", fn := fun _ => fun
  | [d1, d2] => { results := [.lit (.bool false)], args := [d1, d2] }
  | _ => none }
def SequenceWindowFarWrongFalsely : Prop := sequenceWindowFarRow.holds Try.pinned (OpenSpec.ofChange sequenceWindowFarWrong)

/-- 'embrasurelaw06.SequenceAdds': WHATEVER THE INPUT: true; the input reads as it did. -/
def sequenceAddsSpec : ChangeSpec := { name := "sequenceAdds", fn := fun _ => fun
  | [d1, d2, d3] => { results := [.lit (.bool true)], args := [d1, d2, d3] }
  | _ => none }
def sequenceAddsRow : OpenClaim := { program := "ythcianalnhdgjaa", sum := "51ff437485857bd865c716d8cebdab15e20f915372efd6067b54d2de3aae09af", func := "embrasure/embrasurelaw06.SequenceAdds", spec := "sequenceAdds", apart := false }
def SequenceAddsSaid : Prop := sequenceAddsRow.holds Try.pinned (OpenSpec.ofChange sequenceAddsSpec)

/-- ITS FALSE NEIGHBOUR: 'it returns false'. Refute it at one input. -/
def sequenceAddsWrong : ChangeSpec := { name := "sequenceAdds", fn := fun _ => fun
  | [d1, d2, d3] => { results := [.lit (.bool false)], args := [d1, d2, d3] }
  | _ => none }
def SequenceAddsWrongFalsely : Prop := sequenceAddsRow.holds Try.pinned (OpenSpec.ofChange sequenceAddsWrong)

/-- 'embrasurelaw06.SequenceAckedNear': WHATEVER THE INPUT: true; the input reads as it did. -/
def sequenceAckedNearSpec : ChangeSpec := { name := "sequenceAckedNear", fn := fun _ => fun
  | [d1, d2, d3] => { results := [.lit (.bool true)], args := [d1, d2, d3] }
  | _ => none }
def sequenceAckedNearRow : OpenClaim := { program := "ythcianalnhdgjaa", sum := "51ff437485857bd865c716d8cebdab15e20f915372efd6067b54d2de3aae09af", func := "embrasure/embrasurelaw06.SequenceAckedNear", spec := "sequenceAckedNear", apart := false }
def SequenceAckedNearSaid : Prop := sequenceAckedNearRow.holds Try.pinned (OpenSpec.ofChange sequenceAckedNearSpec)

/-- ITS FALSE NEIGHBOUR: 'it returns false'. Refute it at one input. -/
def sequenceAckedNearWrong : ChangeSpec := { name := "sequenceAckedNear", fn := fun _ => fun
  | [d1, d2, d3] => { results := [.lit (.bool false)], args := [d1, d2, d3] }
  | _ => none }
def SequenceAckedNearWrongFalsely : Prop := sequenceAckedNearRow.holds Try.pinned (OpenSpec.ofChange sequenceAckedNearWrong)

/- THE SECOND FORM. 'bulk': how many values and letters a reading holds, each counted each time it is reached (what is shared counts as often as it is met; a slice's spare places count too). A statement '..UptoSaid' is the law's where the arguments, and the package variables that the reading takes, are together of bulk at most 1048576: NARROWER than '..Said'. Prove '..Said' where nothing that the law and all that it calls make is longer than what came in: it says more and counts as full. Else prove '..UptoSaid'. A law counts once. -/
mutual
def uptoBulk {H : Type} : DataW H → Nat
  | .lit (.string bytes) => bytes.length + 1
  | .lit _ => 1
  | .nil => 1
  | .ptr d => uptoBulk d + 1
  | .slice elems spare => uptoBulkAll elems + uptoBulkAll spare + 1
  | .agg parts => uptoBulkAll parts + 1
  | .iface _ d => uptoBulk d + 1
  | .map entries => uptoBulkEntries entries + 1
  | .held _ => 1
def uptoBulkAll {H : Type} : List (DataW H) → Nat
  | [] => 0
  | d :: r => uptoBulk d + uptoBulkAll r
def uptoBulkEntries {H : Type} : List (Lit × DataW H) → Nat
  | [] => 0
  | x :: r => uptoBulkEntry x + uptoBulkEntries r
def uptoBulkEntry {H : Type} : Lit × DataW H → Nat
  | (.string bytes, d) => bytes.length + uptoBulk d + 1
  | (_, d) => uptoBulk d + 1
 end
def uptoSmall : (H : Type) → List (DataW H) → Bool := fun _ ds => decide (uptoBulkAll ds ≤ 1048576)
def OpenSpec.upto (s : _root_.Go.ChangeSpec) : _root_.Go.OpenSpec := { _root_.Go.OpenSpec.ofChange s with cond := some uptoSmall }

/-- 'embrasurelaw06.SequenceTells', WHERE WHAT IT READS IS OF BULK AT MOST 1048576: true; the input reads as it did. -/
def sequenceTellsUptoRow : OpenClaim := { program := "ythcianalnhdgjaa", sum := "51ff437485857bd865c716d8cebdab15e20f915372efd6067b54d2de3aae09af", func := "embrasure/embrasurelaw06.SequenceTells", spec := "sequenceTells", apart := false, narrowed := true }
def SequenceTellsUptoSaid : Prop := sequenceTellsUptoRow.holds Try.pinned (OpenSpec.upto sequenceTellsSpec)

/-- 'embrasurelaw06.SequenceWindowOnce', WHERE WHAT IT READS IS OF BULK AT MOST 1048576: true; the input reads as it did. -/
def sequenceWindowOnceUptoRow : OpenClaim := { program := "ythcianalnhdgjaa", sum := "51ff437485857bd865c716d8cebdab15e20f915372efd6067b54d2de3aae09af", func := "embrasure/embrasurelaw06.SequenceWindowOnce", spec := "sequenceWindowOnce", apart := false, narrowed := true }
def SequenceWindowOnceUptoSaid : Prop := sequenceWindowOnceUptoRow.holds Try.pinned (OpenSpec.upto sequenceWindowOnceSpec)

/-- 'embrasurelaw06.SequenceTurned', WHERE WHAT IT READS IS OF BULK AT MOST 1048576: true; the input reads as it did. -/
def sequenceTurnedUptoRow : OpenClaim := { program := "ythcianalnhdgjaa", sum := "51ff437485857bd865c716d8cebdab15e20f915372efd6067b54d2de3aae09af", func := "embrasure/embrasurelaw06.SequenceTurned", spec := "sequenceTurned", apart := false, narrowed := true }
def SequenceTurnedUptoSaid : Prop := sequenceTurnedUptoRow.holds Try.pinned (OpenSpec.upto sequenceTurnedSpec)

/-- 'embrasurelaw06.SequenceWindowOrder', WHERE WHAT IT READS IS OF BULK AT MOST 1048576: true; the input reads as it did. -/
def sequenceWindowOrderUptoRow : OpenClaim := { program := "ythcianalnhdgjaa", sum := "51ff437485857bd865c716d8cebdab15e20f915372efd6067b54d2de3aae09af", func := "embrasure/embrasurelaw06.SequenceWindowOrder", spec := "sequenceWindowOrder", apart := false, narrowed := true }
def SequenceWindowOrderUptoSaid : Prop := sequenceWindowOrderUptoRow.holds Try.pinned (OpenSpec.upto sequenceWindowOrderSpec)

/-- 'embrasurelaw06.SequenceWindowFar', WHERE WHAT IT READS IS OF BULK AT MOST 1048576: true; the input reads as it did. -/
def sequenceWindowFarUptoRow : OpenClaim := { program := "ythcianalnhdgjaa", sum := "51ff437485857bd865c716d8cebdab15e20f915372efd6067b54d2de3aae09af", func := "embrasure/embrasurelaw06.SequenceWindowFar", spec := "sequenceWindowFar", apart := false, narrowed := true }
def SequenceWindowFarUptoSaid : Prop := sequenceWindowFarUptoRow.holds Try.pinned (OpenSpec.upto sequenceWindowFarSpec)

/-- 'embrasurelaw06.SequenceAdds', WHERE WHAT IT READS IS OF BULK AT MOST 1048576: true; the input reads as it did. -/
def sequenceAddsUptoRow : OpenClaim := { program := "ythcianalnhdgjaa", sum := "51ff437485857bd865c716d8cebdab15e20f915372efd6067b54d2de3aae09af", func := "embrasure/embrasurelaw06.SequenceAdds", spec := "sequenceAdds", apart := false, narrowed := true }
def SequenceAddsUptoSaid : Prop := sequenceAddsUptoRow.holds Try.pinned (OpenSpec.upto sequenceAddsSpec)

/-- 'embrasurelaw06.SequenceAckedNear', WHERE WHAT IT READS IS OF BULK AT MOST 1048576: true; the input reads as it did. -/
def sequenceAckedNearUptoRow : OpenClaim := { program := "ythcianalnhdgjaa", sum := "51ff437485857bd865c716d8cebdab15e20f915372efd6067b54d2de3aae09af", func := "embrasure/embrasurelaw06.SequenceAckedNear", spec := "sequenceAckedNear", apart := false, narrowed := true }
def SequenceAckedNearUptoSaid : Prop := sequenceAckedNearUptoRow.holds Try.pinned (OpenSpec.upto sequenceAckedNearSpec)

end Rows
end Go.Proofs.Ythcianalnhdgjaa
