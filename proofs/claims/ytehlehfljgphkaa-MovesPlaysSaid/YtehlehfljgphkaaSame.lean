/-
  same, walked: of two rows that read alike.
-/
import Derived.Test.YtehlehfljgphkaaRefW
namespace Go.Proofs.Ytehlehfljgphkaa
open Go.RowKit

set_option maxRecDepth 100000 in
set_option maxHeartbeats 1500000 in
theorem same_calls (A1 A2 : Option Addr) (n c1 c2 : Nat) (l : List Cmd) (hl : n ≤ 1000000) (w : World) (h1 : Rc w w.heap.size A1 n l) (h2 : Rc w w.heap.size A2 n l) :
    Calls Try.prog 17 #[.slice A1 n c1, .slice A2 n c2] w fun e w' => e = .returned (.bool true) ∧ ∃ q, w' = w.drewN q := by
  have H1 := Lib.hid h1
  have H2 := Lib.hid h2
  clear h1 h2
  go_enter Try.func17, Try.ntmps17
  go_wp2_with fail
  go_loopw [5] (fun i wr => ∃ (k q : Nat), k ≤ n ∧ i = .int .i64 k ∧ wr = w.drewN q) (fun i _ => n - (intOf i).toNat)
  case atStart => exact ⟨0, 0, by omega, rfl, rfl⟩
  case round =>
    obtain ⟨k, q, hk, rfl, rfl⟩ := hrel
    by_cases hlt : k < n
    · obtain ⟨b, off, x, rfl, hbl, hx, hr⟩ := H1.out.at_ Cmd.cl_len hlt
      obtain ⟨b2, off2, x2, rfl, hbl2, hx2, hr2⟩ := H2.out.at_ Cmd.cl_len hlt
      obtain rfl : x = x2 := by rw [hx] at hx2; injection hx2
      obtain ⟨sq, bt, dx, dy, t⟩ := x
      obtain ⟨d0, d1, d2, d3, d4⟩ := cmd_cells hr
      obtain ⟨e0, e1, e2, e3, e4⟩ := cmd_cells hr2
      clear hr hr2 hx hx2 hbl hbl2
      go_wp2_with fail
      go_quiet (fail)
      go_wp2_with fail
      go_roundw
      case rel => exact ⟨k + 1, _, by omega, by go_num, rfl⟩
      case measure => simp [intOf]; omega
    · go_wp2_with fail
      go_ret
      exact ⟨rfl, _, rfl⟩
end Go.Proofs.Ytehlehfljgphkaa
