/-
  Small facts for the laws of package crc.
-/
import Derived.Test.YtefgcbdfimpaoaaDoorWalk
namespace Go.Proofs.YtefgcbdfimpaoaaDoor
open Go.RowKit
theorem Tryd.info5 : (Tryd.prog.info? 5).map (fun i => (i.zero, i.size, i.bytes)) = some (some (.int .u8 0), 1, 1) := by kernel_rfl
theorem fewer (n N : Nat) : ∃ m, m ≤ n ∧ m ≤ N ∧ ((m = N ∧ N < n) ∨ (m = n ∧ n ≤ N)) := by
  by_cases h : N < n
  · exact ⟨N, by omega, by omega, .inl ⟨rfl, h⟩⟩
  · exact ⟨n, by omega, by omega, .inr ⟨rfl, by omega⟩⟩

end Go.Proofs.YtefgcbdfimpaoaaDoor
