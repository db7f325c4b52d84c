/-
  From a row's reading of a slice of slices of bytes to the words of the walk.
-/
import Derived.Test.YtefgcbdfimpaoaaDoorPieces
import Derived.Test.YtefgcbdfimpaoaaDoorRowBase
import Derived.Deep.Slices
namespace Go.Proofs.YtefgcbdfimpaoaaDoor
open Go.ChangeShapes Go.WideShapes Go.ChangeAt Go.RowKit Go.Deep
theorem pieces_of_trod {H : Type} {enc : TypeId × Value → H} {w : World} {held : Bool} {A : Option Addr} {len cap : Nat} {x : DataW H × List MemPlace} {fuel : Nat}
    (h : DataW.trod enc Tryd.prog w 0 (fun _ => true) held fuel 30 [.slice A len cap] = some x) : len ≤ cap ∧ cap ≤ maxLen ∧ ∃ f, Pieces w w.heap.size A len f := by
  rcases open_slice Tryd.underlying30 h with ⟨hcs, _⟩ | ⟨a, l, c, m, n, D, Pl, hcs, _, hl, hm, hmm, _, hi⟩
  · simp at hcs
    obtain ⟨rfl, rfl, rfl⟩ := hcs
    exact ⟨Nat.le_refl _, Nat.zero_le _, fun _ => [], fun h => absurd h (by omega)⟩
  · simp at hcs
    obtain ⟨rfl, rfl, rfl⟩ := hcs
    refine ⟨hl, hm, ?_⟩
    have c22 : Tryd.prog.cellsOf 22 = 1 := by kernel_rfl
    have hml : len ≤ m := by rw [hmm]; split <;> omega
    have key : ∀ i, ∃ l : List Nat, i < len → ∃ Ai ki ci, w.cell? (a.add i) = some (.slice Ai ki ci) ∧ ki ≤ ci ∧ ci ≤ 9223372036854775807 ∧ Rd w w.heap.size Ai ki (l.map bv) ∧ ∀ c ∈ l, c < 256 := by
      intro i
      by_cases hlt : i < len
      · obtain ⟨cs', hc, ht⟩ := hi i (by omega)
        rw [c22, Nat.mul_one] at hc
        obtain ⟨_, hcl, hat⟩ := World.cells?_some hc
        match cs', hcl with
        | [v], _ =>
          have hcell : w.cell? (a.add i) = some v := by
            have := hat 0 (by decide)
            simpa [Addr.add] using this
          rcases open_ints Tryd.underlying22 Tryd.underlying5 (by kernel_rfl) ht with ⟨hv, _⟩ | ⟨y, l', c', zs, hv, _, hl', hm', hz, _, hcz, hwz⟩
          · simp at hv
            subst hv
            exact ⟨[], fun _ => ⟨none, 0, 0, hcell, Nat.le_refl _, by omega, Rd.nil_ _ _ _, fun c h => by cases h⟩⟩
          · simp at hv
            subst hv
            obtain ⟨l, hr, hlt⟩ := IsRow.bytes (w := w) (A := some y) (len := l') (cap := c') (zs := zs.take l') ⟨hl', hm', rd_of_row hl' (by simpa using hz) hcz, fun n hn => hwz n (List.mem_of_mem_take hn)⟩
            exact ⟨l, fun _ => ⟨_, l', c', hcell, hl', by unfold maxLen at hm'; exact hm', hr, hlt⟩⟩
      · exact ⟨[], fun h => absurd h hlt⟩
    have key' := Classical.axiomOfChoice key
    obtain ⟨f, hf⟩ := key'
    refine ⟨f, fun h0 => ?_⟩
    obtain ⟨A0, k0, c0, hc0, _⟩ := hf 0 h0
    obtain ⟨b, off, spot⟩ := a
    have hspot : spot = none := by simpa [Addr.add] using World.cell?_spot hc0
    subst hspot
    refine ⟨b, off, rfl, by simpa [Addr.add] using cell_lt hc0, fun i hi => ?_⟩
    obtain ⟨Ai, ki, ci, hc, h1, h2, h3, h4⟩ := hf i hi
    have e : (⟨b, off, none⟩ : Addr).add i = ⟨b, off + i, none⟩ := by
      unfold Addr.add
      by_cases h0 : i = 0
      · subst h0; rfl
      · rw [if_neg h0]
    rw [e] at hc
    exact ⟨Ai, ki, ci, hc, h1, h2, h3, h4⟩
end Go.Proofs.YtefgcbdfimpaoaaDoor
