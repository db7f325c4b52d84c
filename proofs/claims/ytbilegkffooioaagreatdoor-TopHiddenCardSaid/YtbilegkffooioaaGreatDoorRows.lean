/-
  NARROWER THAN 'FOR EVERY INPUT', by the rows' own cells (each row's printed sentence says how): TopHidden: laid · TopOnce: laid.
  DERIVED. THE GIVEN ROWS OF THIS SEAT. 2 by the template 'for every input the law returns true; each argument reads behind the call as it read before'; 0 by the template 'total and deterministic' (their statements: YtbilegkffooioaaGreatDoorTotals.lean).
  GIVEN WITH THE SEED: the statements are not yours to turn. If you find one false, say at which input.
  Laid BY PROGRAM, IN A SANDBOX (cutbox-rows.mjs): the forced cells as the released guide's own fill.sh prints them over the translation 01fc8089fb38e3df… (all of the seat's roots in one cut). By AI agents, Wed Nov 11 2026. No macro, syntax, notation, axiom, sorry.
-/
import Derived.Test.YtbilegkffooioaaGreatDoorChecked
import GoSem.Claim
import GoSem.ClaimJoined
import GoSem.ClaimMapViews
import Derived.JoinedTies
import Derived.KernelRfl
namespace Go.Proofs.YtbilegkffooioaaGreatDoor
/- THE CELL 'sum', in the pinned program and in every row, IS THE sha256 OF THE DUMP (.gsa) THAT YtbilegkffooioaaGreatDoorProg.lean LOADS. Nothing in Lean hashes anything: it is a label: what it is worth is what the hold of that sum in a sandbox is worth. -/
noncomputable def Tryz.pinned : Pinned := { name := "ytbilegkffooioaagreatdoor", sum := "01fc8089fb38e3df5e85d9a36ef2d8b491fad4b63acbd640efec63517647b4d7", checked := Tryz.checked }
namespace Rows
def none {H : Type} : Left H := { results := [], args := [] }

/- WHAT THE LISTED PACKAGE-LEVEL VARIABLES READ AS WHEN THE CALL BEGINS. Each datum BY PROGRAM (the guide's laid-datum.mjs) off the statement by which the dump's own 'gosem.cut.vars' lays the variable. In a bare row this is a premise. The card (YtbilegkffooioaaGreatDoorCards.lean) ties it to the program's text. -/
def laid_embrasure_crc_halves {H : Type} : DataW H := .agg [.lit (.int .u16 0), .lit (.int .u16 4129), .lit (.int .u16 8258), .lit (.int .u16 12387), .lit (.int .u16 16516), .lit (.int .u16 20645), .lit (.int .u16 24774), .lit (.int .u16 28903), .lit (.int .u16 33032), .lit (.int .u16 37161), .lit (.int .u16 41290), .lit (.int .u16 45419), .lit (.int .u16 49548), .lit (.int .u16 53677), .lit (.int .u16 57806), .lit (.int .u16 61935)]
def laid_embrasure_view_players {H : Type} : DataW H := .agg [.lit (.int .i64 14), .lit (.int .i64 6), .lit (.int .i64 8)]
def laid_embrasure_view_shots {H : Type} : DataW H := .agg [.lit (.int .i64 10), .lit (.int .i64 9), .lit (.int .i64 64)]

/-- 'embrasuretop.TopHidden': WHATEVER THE INPUT: true; the input reads as it did. -/
def topHiddenSpec : ChangeSpec := { name := "topHidden", fn := fun _ => fun
  | [d1, d2, d3, d4] => { results := [.lit (.bool true)], args := [d1, d2, d3, d4] }
  | _ => none }
def topHiddenRow : OpenClaim := { program := "ytbilegkffooioaagreatdoor", sum := "01fc8089fb38e3df5e85d9a36ef2d8b491fad4b63acbd640efec63517647b4d7", func := "embrasure/embrasuretop.TopHidden", spec := "topHidden", inPlace := ["math/bits.Add64", "slices.overlaps[embrasure/view.row]"], unfollowed := true, recurses := true, named := ["embrasure/crc.halves", "embrasure/view.players", "embrasure/view.shots"], apart := false, laid := [("embrasure/crc.halves", laid_embrasure_crc_halves), ("embrasure/view.players", laid_embrasure_view_players), ("embrasure/view.shots", laid_embrasure_view_shots)] }
def TopHiddenSaid : Prop := topHiddenRow.holds Tryz.pinned (OpenSpec.ofChange topHiddenSpec)

/-- ITS FALSE NEIGHBOUR: 'it returns false'. Refute it at one input. -/
def topHiddenWrong : ChangeSpec := { name := "topHidden", fn := fun _ => fun
  | [d1, d2, d3, d4] => { results := [.lit (.bool false)], args := [d1, d2, d3, d4] }
  | _ => none }
def TopHiddenWrongFalsely : Prop := topHiddenRow.holds Tryz.pinned (OpenSpec.ofChange topHiddenWrong)

/-- 'embrasuretop.TopOnce': WHATEVER THE INPUT: true; the input reads as it did. -/
def topOnceSpec : ChangeSpec := { name := "topOnce", fn := fun _ => fun
  | [d1, d2] => { results := [.lit (.bool true)], args := [d1, d2] }
  | _ => none }
def topOnceRow : OpenClaim := { program := "ytbilegkffooioaagreatdoor", sum := "01fc8089fb38e3df5e85d9a36ef2d8b491fad4b63acbd640efec63517647b4d7", func := "embrasure/embrasuretop.TopOnce", spec := "topOnce", inPlace := ["math/bits.Add64", "slices.overlaps[embrasure/view.row]"], unfollowed := true, recurses := true, named := ["embrasure/crc.halves", "embrasure/view.players", "embrasure/view.shots"], apart := false, laid := [("embrasure/crc.halves", laid_embrasure_crc_halves), ("embrasure/view.players", laid_embrasure_view_players), ("embrasure/view.shots", laid_embrasure_view_shots)] }
def TopOnceSaid : Prop := topOnceRow.holds Tryz.pinned (OpenSpec.ofChange topOnceSpec)

/-- ITS FALSE NEIGHBOUR: 'it returns false'. Refute it at one input. -/
def topOnceWrong : ChangeSpec := { name := "topOnce", fn := fun _ => fun
  | [d1, d2] => { results := [.lit (.bool false)], args := [d1, d2] }
  | _ => none }
def TopOnceWrongFalsely : Prop := topOnceRow.holds Tryz.pinned (OpenSpec.ofChange topOnceWrong)

/- THE SECOND FORM. 'bulk': how many values and letters a reading holds, each counted each time it is reached (what is shared counts as often as it is met; a slice's spare places count too). A statement '..UptoSaid' is the law's where the arguments, and the package variables that the reading takes, are together of bulk at most 1048576: NARROWER than '..Said'. Prove '..Said' where nothing that the law and all that it calls make is longer than what came in: it says more and counts as full. Else prove '..UptoSaid'. A law counts once. -/
mutual
def uptoBulk {H : Type} : DataW H → Nat
  | .lit (.string bytes) => bytes.length + 1
  | .lit _ => 1
  | .nil => 1
  | .ptr d => uptoBulk d + 1
  | .slice elems spare => uptoBulkAll elems + uptoBulkAll spare + 1
  | .agg parts => uptoBulkAll parts + 1
  | .iface _ d => uptoBulk d + 1
  | .map entries => uptoBulkEntries entries + 1
  | .held _ => 1
def uptoBulkAll {H : Type} : List (DataW H) → Nat
  | [] => 0
  | d :: r => uptoBulk d + uptoBulkAll r
def uptoBulkEntries {H : Type} : List (Lit × DataW H) → Nat
  | [] => 0
  | x :: r => uptoBulkEntry x + uptoBulkEntries r
def uptoBulkEntry {H : Type} : Lit × DataW H → Nat
  | (.string bytes, d) => bytes.length + uptoBulk d + 1
  | (_, d) => uptoBulk d + 1
 end
def uptoSmall : (H : Type) → List (DataW H) → Bool := fun _ ds => decide (uptoBulkAll ds ≤ 1048576)
def OpenSpec.upto (s : _root_.Go.ChangeSpec) : _root_.Go.OpenSpec := { _root_.Go.OpenSpec.ofChange s with cond := some uptoSmall }

/-- 'embrasuretop.TopHidden', WHERE WHAT IT READS IS OF BULK AT MOST 1048576: true; the input reads as it did. -/
def topHiddenUptoRow : OpenClaim := { program := "ytbilegkffooioaagreatdoor", sum := "01fc8089fb38e3df5e85d9a36ef2d8b491fad4b63acbd640efec63517647b4d7", func := "embrasure/embrasuretop.TopHidden", spec := "topHidden", inPlace := ["math/bits.Add64", "slices.overlaps[embrasure/view.row]"], unfollowed := true, recurses := true, named := ["embrasure/crc.halves", "embrasure/view.players", "embrasure/view.shots"], apart := false, laid := [("embrasure/crc.halves", laid_embrasure_crc_halves), ("embrasure/view.players", laid_embrasure_view_players), ("embrasure/view.shots", laid_embrasure_view_shots)], narrowed := true }
def TopHiddenUptoSaid : Prop := topHiddenUptoRow.holds Tryz.pinned (OpenSpec.upto topHiddenSpec)

/-- 'embrasuretop.TopOnce', WHERE WHAT IT READS IS OF BULK AT MOST 1048576: true; the input reads as it did. -/
def topOnceUptoRow : OpenClaim := { program := "ytbilegkffooioaagreatdoor", sum := "01fc8089fb38e3df5e85d9a36ef2d8b491fad4b63acbd640efec63517647b4d7", func := "embrasure/embrasuretop.TopOnce", spec := "topOnce", inPlace := ["math/bits.Add64", "slices.overlaps[embrasure/view.row]"], unfollowed := true, recurses := true, named := ["embrasure/crc.halves", "embrasure/view.players", "embrasure/view.shots"], apart := false, laid := [("embrasure/crc.halves", laid_embrasure_crc_halves), ("embrasure/view.players", laid_embrasure_view_players), ("embrasure/view.shots", laid_embrasure_view_shots)], narrowed := true }
def TopOnceUptoSaid : Prop := topOnceUptoRow.holds Tryz.pinned (OpenSpec.upto topOnceSpec)

end Rows
end Go.Proofs.YtbilegkffooioaaGreatDoor
