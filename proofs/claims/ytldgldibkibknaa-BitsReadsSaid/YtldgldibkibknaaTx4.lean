import Derived.Test.YtldgldibkibknaaTx3
namespace Go.Proofs.Ytldgldibkibknaa
open Go.RowKit

/-- Is what is left a filling? -/
def refRest (bs : List Bool) : Bool := decide (∀ i, i < bs.length → bi bs i = 0) && decide (bs.length < 8)

set_option maxRecDepth 100000 in
set_option maxHeartbeats 1500000 in
theorem refrest_calls (bs : List Bool) (S : ByteArray) (hS : S = tx bs) (hl : bs.length ≤ 1000000) (w : World) :
    Calls Try.prog 20 #[.string S] w fun e w' => e = .returned (.bool (refRest bs)) ∧ w' = w := by
  have HB : Hid (∀ (k : Nat), k < bs.length → ∀ W : World, (Instr.index 9 (.string S) (.int .i64 (k : Int))).run Try.prog W = .ok (.int .u8 (48 + (bi bs k : Int))) W) := Lib.hid (fun k h => bidx_run bs S hS k h)
  obtain ⟨m, hm⟩ : ∃ m, bs.length = m := ⟨_, rfl⟩
  have hsz : S.size = m := by rw [hS, tx_size, hm]
  have HLEN := Lib.hid hm
  rw [hm] at HB hl
  clear hm hS
  go_enter Try.func20, Try.ntmps20
  go_wp2_with fail
  go_loopw [3] (fun ivv wr => ∃ (k : Nat), k ≤ m ∧ ivv = .int .i64 k ∧ Hid (∀ i, i < k → bi bs i = 0) ∧ wr = w) (fun i _ => m - (iv i).toNat)
  case atStart => exact ⟨0, by omega, rfl, Lib.hid (fun i h => by omega), rfl⟩
  case round =>
    obtain ⟨k, hk, rfl, HZ, rfl⟩ := hrel
    by_cases hlt : k < m
    · have hix := HB.out k hlt
      rcases (show bi bs k = 0 ∨ bi bs k = 1 by have := bi_le bs k; omega) with h | h
      · rw [h] at hix
        have HN : Hid (∀ i, i < k + 1 → bi bs i = 0) := Lib.hid (fun i hi => by
          by_cases e : i = k
          · rw [e]; exact h
          · exact HZ.out i (by omega))
        clear h
        go_wp2_with fail
        go_roundw
        case rel => exact ⟨k + 1, by omega, by go_num, HN, trivial⟩
        case measure => simp [iv]; omega
      · rw [h] at hix
        have HF : Hid (refRest bs = false) := Lib.hid (by
          have : ¬ ∀ i, i < bs.length → bi bs i = 0 := fun hall => by have := hall k (by rw [HLEN.out]; exact hlt); omega
          unfold refRest; rw [decide_eq_false this]; rfl)
        clear h
        go_wp2_with fail
        go_ret
        exact ⟨by rw [HF.out]; rfl, rfl⟩
    · obtain rfl : m = k := by omega
      have HF : Hid (refRest bs = decide (m < 8)) := Lib.hid (by
        unfold refRest; rw [HLEN.out, decide_eq_true HZ.out]; rfl)
      go_wp2_with fail
      go_ret
      exact ⟨by rw [HF.out]; simp; omega, rfl⟩
end Go.Proofs.Ytldgldibkibknaa
