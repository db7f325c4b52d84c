/-
  From a row's reading of its arguments to the words of the walks: a slice of integers that came in reads as a list.
-/
import Derived.Test.YtehlehfljgphkaaBase
import Derived.ProofKit
import Derived.OpenShut
import Derived.ShutString
import Derived.ChangeOld
import Derived.Below
import Derived.LaidMore
import Derived.Lib.LaidTab
import Derived.Stop.Joined
import Derived.SevenTiedAt
namespace Go.Proofs.Ytehlehfljgphkaa
open Go.ChangeShapes Go.WideShapes Go.ChangeAt Go.RowKit

theorem cell_lt {w : World} {a : Addr} {v : Value} (h : w.cell? a = some v) : a.block < w.heap.size := by
  rcases Nat.lt_or_ge a.block w.heap.size with h' | h'
  · exact h'
  · simp [World.cell?, Array.getElem?_eq_none h'] at h
theorem rd_of_row {k : IntKind} {w : World} {x : Addr} {len cap : Nat} {zs : List Int} (hl : len ≤ cap) (hz : zs.length = cap)
    (hcell : ∀ i, i < zs.length → w.cell? (x.add i) = some (.int k (zs.getD i 0))) : Rd w w.heap.size (some x) len ((zs.take len).map (Value.int k)) := by
  refine ⟨by simp; omega, fun h0 => ?_⟩
  have hc := hcell 0 (by omega)
  obtain ⟨b, off, spot⟩ := x
  have hspot : spot = none := by simpa [Addr.add] using World.cell?_spot hc
  subst hspot
  refine ⟨b, off, rfl, by simpa [Addr.add] using cell_lt hc, fun j u hu => ?_⟩
  have hj : j < (zs.take len).length := by
    rcases Nat.lt_or_ge j (zs.take len).length with h' | h'
    · exact h'
    · rw [List.getElem?_eq_none (by simpa using h')] at hu; cases hu
  have hj2 : j < zs.length := by simp at hj; omega
  have h := hcell j hj2
  have e : (⟨b, off, none⟩ : Addr).add j = ⟨b, off + j, none⟩ := by
    unfold Addr.add
    by_cases h0 : j = 0
    · subst h0; rfl
    · rw [if_neg h0]
  rw [e] at h
  rw [h, ← hu]
  simp at hj
  simp [hj, hj2]
/-- A slice of integers that came in: its length is within its capacity, and it reads as the integers zs, each fitting its kind. -/
def IsRow (k : IntKind) (w : World) (A : Option Addr) (len cap : Nat) (zs : List Int) : Prop :=
  len ≤ cap ∧ cap ≤ maxLen ∧ Rd w w.heap.size A len (zs.map (Value.int k)) ∧ ∀ n ∈ zs, (Lit.int k n).wf = true
theorem IsRow.bytes {w : World} {A : Option Addr} {len cap : Nat} {zs : List Int} (h : IsRow .u8 w A len cap zs) :
    ∃ l : List Nat, Rd w w.heap.size A len (l.map bv) ∧ ∀ c ∈ l, c < 256 := by
  refine ⟨zs.map Int.toNat, h.2.2.1.of_ ?_, fun c hc => ?_⟩
  · rw [List.map_map]
    refine List.map_congr_left fun z hz => ?_
    have := bounds_u8 (h.2.2.2 z hz)
    simp [bv]
    omega
  · obtain ⟨z, hz, rfl⟩ := List.mem_map.1 hc
    have := bounds_u8 (h.2.2.2 z hz)
    omega

end Go.Proofs.Ytehlehfljgphkaa
