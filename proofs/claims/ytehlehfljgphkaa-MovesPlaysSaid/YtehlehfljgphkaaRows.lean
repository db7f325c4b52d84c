/-
  No cell of these rows narrows 'for every input' (looked for: loops, veiled, ifaces, maps, wideKeys, modest, calm, conditions, laid).
  DERIVED. THE GIVEN ROWS OF THIS SEAT. 7 by the template 'for every input the law returns true; each argument reads behind the call as it read before'; 0 by the template 'total and deterministic' (their statements: YtehlehfljgphkaaTotals.lean).
  GIVEN WITH THE SEED: the statements are not yours to turn. If you find one false, say at which input.
  Laid BY PROGRAM, IN A SANDBOX (cutbox-rows.mjs): the forced cells as the released guide's own fill.sh prints them over the translation 25883636f0874058… (all of the seat's roots in one cut). By AI agents, Wed Nov 11 2026. No macro, syntax, notation, axiom, sorry.
-/
import Derived.Test.YtehlehfljgphkaaChecked
import GoSem.Claim
import GoSem.ClaimJoined
import GoSem.ClaimMapViews
import Derived.JoinedTies
import Derived.KernelRfl
namespace Go.Proofs.Ytehlehfljgphkaa
/- THE CELL 'sum', in the pinned program and in every row, IS THE sha256 OF THE DUMP (.gsa) THAT YtehlehfljgphkaaProg.lean LOADS. Nothing in Lean hashes anything: it is a label: what it is worth is what the hold of that sum in a sandbox is worth. -/
noncomputable def Try.pinned : Pinned := { name := "ytehlehfljgphkaa", sum := "25883636f08740581254b91f30d417d0d3225c8268899a39f5937a80c78f0839", checked := Try.checked }
namespace Rows
def none {H : Type} : Left H := { results := [], args := [] }

/-- 'embrasurelaw17.MovesPlays': WHATEVER THE INPUT: true; the input reads as it did. -/
def movesPlaysSpec : ChangeSpec := { name := "movesPlays", fn := fun _ => fun
  | [d] => { results := [.lit (.bool true)], args := [d] }
  | _ => none }
def movesPlaysRow : OpenClaim := { program := "ytehlehfljgphkaa", sum := "25883636f08740581254b91f30d417d0d3225c8268899a39f5937a80c78f0839", func := "embrasure/embrasurelaw17.MovesPlays", spec := "movesPlays", unfollowed := true, recurses := true, apart := false }
def MovesPlaysSaid : Prop := movesPlaysRow.holds Try.pinned (OpenSpec.ofChange movesPlaysSpec)

/-- ITS FALSE NEIGHBOUR: 'it returns false'. Refute it at one input. -/
def movesPlaysWrong : ChangeSpec := { name := "movesPlays", fn := fun _ => fun
  | [d] => { results := [.lit (.bool false)], args := [d] }
  | _ => none }
def MovesPlaysWrongFalsely : Prop := movesPlaysRow.holds Try.pinned (OpenSpec.ofChange movesPlaysWrong)

/-- 'embrasurelaw17.MovesCombines': WHATEVER THE INPUT: true; the input reads as it did. -/
def movesCombinesSpec : ChangeSpec := { name := "movesCombines", fn := fun _ => fun
  | [d1, d2] => { results := [.lit (.bool true)], args := [d1, d2] }
  | _ => none }
def movesCombinesRow : OpenClaim := { program := "ytehlehfljgphkaa", sum := "25883636f08740581254b91f30d417d0d3225c8268899a39f5937a80c78f0839", func := "embrasure/embrasurelaw17.MovesCombines", spec := "movesCombines", unfollowed := true, recurses := true, apart := false }
def MovesCombinesSaid : Prop := movesCombinesRow.holds Try.pinned (OpenSpec.ofChange movesCombinesSpec)

/-- ITS FALSE NEIGHBOUR: 'it returns false'. Refute it at one input. -/
def movesCombinesWrong : ChangeSpec := { name := "movesCombines", fn := fun _ => fun
  | [d1, d2] => { results := [.lit (.bool false)], args := [d1, d2] }
  | _ => none }
def MovesCombinesWrongFalsely : Prop := movesCombinesRow.holds Try.pinned (OpenSpec.ofChange movesCombinesWrong)

/-- 'embrasurelaw17.MovesThree': WHATEVER THE INPUT: true; the input reads as it did. -/
def movesThreeSpec : ChangeSpec := { name := "movesThree", fn := fun _ => fun
  | [d1, d2, d3] => { results := [.lit (.bool true)], args := [d1, d2, d3] }
  | _ => none }
def movesThreeRow : OpenClaim := { program := "ytehlehfljgphkaa", sum := "25883636f08740581254b91f30d417d0d3225c8268899a39f5937a80c78f0839", func := "embrasure/embrasurelaw17.MovesThree", spec := "movesThree", unfollowed := true, recurses := true, apart := false }
def MovesThreeSaid : Prop := movesThreeRow.holds Try.pinned (OpenSpec.ofChange movesThreeSpec)

/-- ITS FALSE NEIGHBOUR: 'it returns false'. Refute it at one input. -/
def movesThreeWrong : ChangeSpec := { name := "movesThree", fn := fun _ => fun
  | [d1, d2, d3] => { results := [.lit (.bool false)], args := [d1, d2, d3] }
  | _ => none }
def MovesThreeWrongFalsely : Prop := movesThreeRow.holds Try.pinned (OpenSpec.ofChange movesThreeWrong)

/-- 'embrasurelaw17.MovesLeft': WHATEVER THE INPUT: true; the input reads as it did. -/
def movesLeftSpec : ChangeSpec := { name := "movesLeft", fn := fun _ => fun
  | [d1, d2, d3] => { results := [.lit (.bool true)], args := [d1, d2, d3] }
  | _ => none }
def movesLeftRow : OpenClaim := { program := "ytehlehfljgphkaa", sum := "25883636f08740581254b91f30d417d0d3225c8268899a39f5937a80c78f0839", func := "embrasure/embrasurelaw17.MovesLeft", spec := "movesLeft", unfollowed := true, recurses := true, apart := false }
def MovesLeftSaid : Prop := movesLeftRow.holds Try.pinned (OpenSpec.ofChange movesLeftSpec)

/-- ITS FALSE NEIGHBOUR: 'it returns false'. Refute it at one input. -/
def movesLeftWrong : ChangeSpec := { name := "movesLeft", fn := fun _ => fun
  | [d1, d2, d3] => { results := [.lit (.bool false)], args := [d1, d2, d3] }
  | _ => none }
def MovesLeftWrongFalsely : Prop := movesLeftRow.holds Try.pinned (OpenSpec.ofChange movesLeftWrong)

/-- 'embrasurelaw17.MovesAcked': WHATEVER THE INPUT: true; the input reads as it did. -/
def movesAckedSpec : ChangeSpec := { name := "movesAcked", fn := fun _ => fun
  | [d1, d2, d3] => { results := [.lit (.bool true)], args := [d1, d2, d3] }
  | _ => none }
def movesAckedRow : OpenClaim := { program := "ytehlehfljgphkaa", sum := "25883636f08740581254b91f30d417d0d3225c8268899a39f5937a80c78f0839", func := "embrasure/embrasurelaw17.MovesAcked", spec := "movesAcked", unfollowed := true, recurses := true, apart := false }
def MovesAckedSaid : Prop := movesAckedRow.holds Try.pinned (OpenSpec.ofChange movesAckedSpec)

/-- ITS FALSE NEIGHBOUR: 'it returns false'. Refute it at one input. -/
def movesAckedWrong : ChangeSpec := { name := "movesAcked", fn := fun _ => fun
  | [d1, d2, d3] => { results := [.lit (.bool false)], args := [d1, d2, d3] }
  | _ => none }
def MovesAckedWrongFalsely : Prop := movesAckedRow.holds Try.pinned (OpenSpec.ofChange movesAckedWrong)

/-- 'embrasurelaw17.MovesOnce': WHATEVER THE INPUT: true; the input reads as it did. -/
def movesOnceSpec : ChangeSpec := { name := "movesOnce", fn := fun _ => fun
  | [d1, d2] => { results := [.lit (.bool true)], args := [d1, d2] }
  | _ => none }
def movesOnceRow : OpenClaim := { program := "ytehlehfljgphkaa", sum := "25883636f08740581254b91f30d417d0d3225c8268899a39f5937a80c78f0839", func := "embrasure/embrasurelaw17.MovesOnce", spec := "movesOnce", unfollowed := true, recurses := true, apart := false }
def MovesOnceSaid : Prop := movesOnceRow.holds Try.pinned (OpenSpec.ofChange movesOnceSpec)

/-- ITS FALSE NEIGHBOUR: 'it returns false'. Refute it at one input. -/
def movesOnceWrong : ChangeSpec := { name := "movesOnce", fn := fun _ => fun
  | [d1, d2] => { results := [.lit (.bool false)], args := [d1, d2] }
  | _ => none }
def MovesOnceWrongFalsely : Prop := movesOnceRow.holds Try.pinned (OpenSpec.ofChange movesOnceWrong)

/-- 'embrasurelaw17.MovesSums': WHATEVER THE INPUT: true; the input reads as it did. -/
def movesSumsSpec : ChangeSpec := { name := "movesSums", fn := fun _ => fun
  | [d] => { results := [.lit (.bool true)], args := [d] }
  | _ => none }
def movesSumsRow : OpenClaim := { program := "ytehlehfljgphkaa", sum := "25883636f08740581254b91f30d417d0d3225c8268899a39f5937a80c78f0839", func := "embrasure/embrasurelaw17.MovesSums", spec := "movesSums", unfollowed := true, recurses := true, apart := false }
def MovesSumsSaid : Prop := movesSumsRow.holds Try.pinned (OpenSpec.ofChange movesSumsSpec)

/-- ITS FALSE NEIGHBOUR: 'it returns false'. Refute it at one input. -/
def movesSumsWrong : ChangeSpec := { name := "movesSums", fn := fun _ => fun
  | [d] => { results := [.lit (.bool false)], args := [d] }
  | _ => none }
def MovesSumsWrongFalsely : Prop := movesSumsRow.holds Try.pinned (OpenSpec.ofChange movesSumsWrong)

/- THE SECOND FORM. 'bulk': how many values and letters a reading holds, each counted each time it is reached (what is shared counts as often as it is met; a slice's spare places count too). A statement '..UptoSaid' is the law's where the arguments, and the package variables that the reading takes, are together of bulk at most 1048576: NARROWER than '..Said'. Prove '..Said' where nothing that the law and all that it calls make is longer than what came in: it says more and counts as full. Else prove '..UptoSaid'. A law counts once. -/
mutual
def uptoBulk {H : Type} : DataW H → Nat
  | .lit (.string bytes) => bytes.length + 1
  | .lit _ => 1
  | .nil => 1
  | .ptr d => uptoBulk d + 1
  | .slice elems spare => uptoBulkAll elems + uptoBulkAll spare + 1
  | .agg parts => uptoBulkAll parts + 1
  | .iface _ d => uptoBulk d + 1
  | .map entries => uptoBulkEntries entries + 1
  | .held _ => 1
def uptoBulkAll {H : Type} : List (DataW H) → Nat
  | [] => 0
  | d :: r => uptoBulk d + uptoBulkAll r
def uptoBulkEntries {H : Type} : List (Lit × DataW H) → Nat
  | [] => 0
  | x :: r => uptoBulkEntry x + uptoBulkEntries r
def uptoBulkEntry {H : Type} : Lit × DataW H → Nat
  | (.string bytes, d) => bytes.length + uptoBulk d + 1
  | (_, d) => uptoBulk d + 1
 end
def uptoSmall : (H : Type) → List (DataW H) → Bool := fun _ ds => decide (uptoBulkAll ds ≤ 1048576)
def OpenSpec.upto (s : _root_.Go.ChangeSpec) : _root_.Go.OpenSpec := { _root_.Go.OpenSpec.ofChange s with cond := some uptoSmall }

/-- 'embrasurelaw17.MovesPlays', WHERE WHAT IT READS IS OF BULK AT MOST 1048576: true; the input reads as it did. -/
def movesPlaysUptoRow : OpenClaim := { program := "ytehlehfljgphkaa", sum := "25883636f08740581254b91f30d417d0d3225c8268899a39f5937a80c78f0839", func := "embrasure/embrasurelaw17.MovesPlays", spec := "movesPlays", unfollowed := true, recurses := true, apart := false, narrowed := true }
def MovesPlaysUptoSaid : Prop := movesPlaysUptoRow.holds Try.pinned (OpenSpec.upto movesPlaysSpec)

/-- 'embrasurelaw17.MovesCombines', WHERE WHAT IT READS IS OF BULK AT MOST 1048576: true; the input reads as it did. -/
def movesCombinesUptoRow : OpenClaim := { program := "ytehlehfljgphkaa", sum := "25883636f08740581254b91f30d417d0d3225c8268899a39f5937a80c78f0839", func := "embrasure/embrasurelaw17.MovesCombines", spec := "movesCombines", unfollowed := true, recurses := true, apart := false, narrowed := true }
def MovesCombinesUptoSaid : Prop := movesCombinesUptoRow.holds Try.pinned (OpenSpec.upto movesCombinesSpec)

/-- 'embrasurelaw17.MovesThree', WHERE WHAT IT READS IS OF BULK AT MOST 1048576: true; the input reads as it did. -/
def movesThreeUptoRow : OpenClaim := { program := "ytehlehfljgphkaa", sum := "25883636f08740581254b91f30d417d0d3225c8268899a39f5937a80c78f0839", func := "embrasure/embrasurelaw17.MovesThree", spec := "movesThree", unfollowed := true, recurses := true, apart := false, narrowed := true }
def MovesThreeUptoSaid : Prop := movesThreeUptoRow.holds Try.pinned (OpenSpec.upto movesThreeSpec)

/-- 'embrasurelaw17.MovesLeft', WHERE WHAT IT READS IS OF BULK AT MOST 1048576: true; the input reads as it did. -/
def movesLeftUptoRow : OpenClaim := { program := "ytehlehfljgphkaa", sum := "25883636f08740581254b91f30d417d0d3225c8268899a39f5937a80c78f0839", func := "embrasure/embrasurelaw17.MovesLeft", spec := "movesLeft", unfollowed := true, recurses := true, apart := false, narrowed := true }
def MovesLeftUptoSaid : Prop := movesLeftUptoRow.holds Try.pinned (OpenSpec.upto movesLeftSpec)

/-- 'embrasurelaw17.MovesAcked', WHERE WHAT IT READS IS OF BULK AT MOST 1048576: true; the input reads as it did. -/
def movesAckedUptoRow : OpenClaim := { program := "ytehlehfljgphkaa", sum := "25883636f08740581254b91f30d417d0d3225c8268899a39f5937a80c78f0839", func := "embrasure/embrasurelaw17.MovesAcked", spec := "movesAcked", unfollowed := true, recurses := true, apart := false, narrowed := true }
def MovesAckedUptoSaid : Prop := movesAckedUptoRow.holds Try.pinned (OpenSpec.upto movesAckedSpec)

/-- 'embrasurelaw17.MovesOnce', WHERE WHAT IT READS IS OF BULK AT MOST 1048576: true; the input reads as it did. -/
def movesOnceUptoRow : OpenClaim := { program := "ytehlehfljgphkaa", sum := "25883636f08740581254b91f30d417d0d3225c8268899a39f5937a80c78f0839", func := "embrasure/embrasurelaw17.MovesOnce", spec := "movesOnce", unfollowed := true, recurses := true, apart := false, narrowed := true }
def MovesOnceUptoSaid : Prop := movesOnceUptoRow.holds Try.pinned (OpenSpec.upto movesOnceSpec)

/-- 'embrasurelaw17.MovesSums', WHERE WHAT IT READS IS OF BULK AT MOST 1048576: true; the input reads as it did. -/
def movesSumsUptoRow : OpenClaim := { program := "ytehlehfljgphkaa", sum := "25883636f08740581254b91f30d417d0d3225c8268899a39f5937a80c78f0839", func := "embrasure/embrasurelaw17.MovesSums", spec := "movesSums", unfollowed := true, recurses := true, apart := false, narrowed := true }
def MovesSumsUptoSaid : Prop := movesSumsUptoRow.holds Try.pinned (OpenSpec.upto movesSumsSpec)

end Rows
end Go.Proofs.Ytehlehfljgphkaa
