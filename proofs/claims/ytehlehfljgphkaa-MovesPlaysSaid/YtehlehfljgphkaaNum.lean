/-
  The small functions, each walked once: Dist, Newer, right, and the document's Dist, Right; Combine, both.
-/
import Derived.Test.YtehlehfljgphkaaCmd
import Derived.Deep.QuietTactic
import Derived.BigQuiet
namespace Go.Proofs.Ytehlehfljgphkaa
open Go.RowKit

/-- How far one number is ahead of another, going round. -/
def dist (a b : Int) : Int := (a - b + 32768) % 65536 - 32768
theorem dist_walk (a b : Int) : IntKind.i16.wrap (IntKind.u16.wrap (a - b)) = dist a b := by
  unfold dist
  rw [IntKind.wrap_u16]
  simp only [IntKind.wrap, IntKind.bits, IntKind.signed]
  simp
  omega
theorem dist_lo (a b : Int) : -32768 ≤ dist a b ∧ dist a b ≤ 32767 := by unfold dist; omega
set_option maxHeartbeats 400000 in
theorem dist_calls (a b : Int) (w : World) : Calls Try.prog 31 #[.int .u16 a, .int .u16 b] w fun e w' => e = .returned (.int .i64 (dist a b)) ∧ w = w' := by
  go_enter Try.func31, Try.ntmps31
  go_wp2
  go_ret
  refine ⟨ret_i64 ?_, rfl⟩
  rw [dist_walk]
  have := dist_lo a b
  unfold wrap64
  omega
def newer (a b : Int) : Bool := decide (0 < dist a b)
theorem newer_calls (a b : Int) (w : World) : Calls Try.prog 26 #[.int .u16 a, .int .u16 b] w fun e w' => e = .returned (.bool (newer a b)) ∧ w = w' := by
  unfold newer
  have h := Lib.hid (dist_calls a b w)
  generalize dist a b = d at *
  go_enter Try.func26, Try.ntmps26
  go_wp2_with (go_at_call 31; refine h.out.mono ?_; rintro e w' ⟨rfl, rfl⟩)
  go_ret
  exact ⟨rfl, rfl⟩
set_option maxHeartbeats 400000 in
theorem refdist_calls (a b : Int) (w : World) (ha : 0 ≤ a ∧ a < 65536) (hb : 0 ≤ b ∧ b < 65536) : Calls Try.prog 28 #[.int .u16 a, .int .u16 b] w fun e w' => e = .returned (.int .i64 (dist a b)) ∧ w = w' := by
  obtain ⟨a, rfl⟩ := Int.eq_ofNat_of_zero_le ha.1
  obtain ⟨b, rfl⟩ := Int.eq_ofNat_of_zero_le hb.1
  by_cases h1 : 32767 < (a : Int) - b
  · go_enter Try.func28, Try.ntmps28
    go_wp2
    go_ret
    exact ⟨ret_i64 (by unfold dist; omega), rfl⟩
  · by_cases h2 : (a : Int) - b < -32768
    · go_enter Try.func28, Try.ntmps28
      go_wp2
      go_ret
      exact ⟨ret_i64 (by unfold dist; omega), rfl⟩
    · go_enter Try.func28, Try.ntmps28
      go_wp2
      go_ret
      exact ⟨ret_i64 (by unfold dist; omega), rfl⟩

/-- Is a command right? -/
def rightB (c : Cmd) : Bool := decide (c.btn ≤ 3) && (decide (1 ≤ c.ticks) && decide (c.ticks ≤ 8))
set_option maxHeartbeats 400000 in
theorem right_calls (s b dx dy t : Int) (w : World) : Calls Try.prog 29 #[.agg #[.int .u16 s, .int .u8 b, .int .i8 dx, .int .i8 dy, .int .i64 t]] w fun e w' => e = .returned (.bool (rightB ⟨s, b, dx, dy, t⟩)) ∧ w.alloc (.cells #[.int .u16 s, .int .u8 b, .int .i8 dx, .int .i8 dy, .int .i64 t] 33) = w' := by
  unfold rightB
  dsimp only
  rcases h1 : decide (b ≤ 3) with _ | _ <;> rcases h2 : decide (1 ≤ t) with _ | _ <;> rcases h3 : decide (t ≤ 8) with _ | _
  all_goals
    go_enter Try.func29, Try.ntmps29
    go_wp2
    go_ret
    exact ⟨ret_bool (by simp), rfl⟩
set_option maxHeartbeats 400000 in
theorem refright_calls (s b dx dy t : Int) (w : World) : Calls Try.prog 22 #[.agg #[.int .u16 s, .int .u8 b, .int .i8 dx, .int .i8 dy, .int .i64 t]] w fun e w' => e = .returned (.bool (rightB ⟨s, b, dx, dy, t⟩)) ∧ w.alloc (.cells #[.int .u16 s, .int .u8 b, .int .i8 dx, .int .i8 dy, .int .i64 t] 33) = w' := by
  have hb : decide (b < 4) = decide (b ≤ 3) := decide_eq_decide.2 (by omega)
  unfold rightB
  dsimp only
  rcases h1 : decide (b ≤ 3) with _ | _ <;> rcases h2 : decide (1 ≤ t) with _ | _ <;> rcases h3 : decide (t ≤ 8) with _ | _
  all_goals
    rw [h1] at hb
    go_enter Try.func22, Try.ntmps22
    go_wp2
    go_ret
    exact ⟨ret_bool (by simp), rfl⟩

/-- What two commands make together; are they one? -/
def both (a b : Cmd) : Cmd := ⟨b.seq, b.btn, b.dx, b.dy, IntKind.i64.wrap (a.ticks + b.ticks)⟩
def sameB (a b : Cmd) : Bool := (a.btn == b.btn) && ((a.dx == b.dx) && (a.dy == b.dy))
def okB (a b : Cmd) : Bool := rightB a && (rightB b && (rightB (both a b) && (sameB a b && newer b.seq a.seq)))
def comb (a b : Cmd) : Cmd := if okB a b = true then both a b else ⟨0, 0, 0, 0, 0⟩
end Go.Proofs.Ytehlehfljgphkaa
