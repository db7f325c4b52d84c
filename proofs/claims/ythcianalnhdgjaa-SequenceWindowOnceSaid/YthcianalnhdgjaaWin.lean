/-
  The window of package sequence, each function walked once: Any, Ack, Accept.
-/
import Derived.Test.YthcianalnhdgjaaNum
import Derived.IntWalk
namespace Go.Proofs.Ythcianalnhdgjaa
open Go.RowKit

/-- A window lies in block g: whether any was accepted, the last one, the bits. -/
def Win (w : World) (g : Nat) (s : Bool) (last : Int) (bits : Nat) : Prop := Blk w g 32 #[.bool s, .int .u16 last, .int .u32 (bits : Int)]

set_option maxHeartbeats 400000 in
theorem any_calls (g : Nat) (s : Bool) (last : Int) (bits : Nat) (w : World) (hW : Win w g s last bits) : Calls Try.prog 18 #[.pointer (some ⟨g, 0, none⟩)] w fun e w' => e = .returned (.bool s) ∧ w = w' := by
  have c0 := hW.cell 0
  clear hW
  simp at c0
  go_enter Try.func18, Try.ntmps18
  go_wp2
  go_ret
  exact ⟨rfl, rfl⟩
set_option maxHeartbeats 400000 in
theorem ack_calls (g : Nat) (s : Bool) (last : Int) (bits : Nat) (w : World) (hW : Win w g s last bits) :
    Calls Try.prog 17 #[.pointer (some ⟨g, 0, none⟩)] w fun e w' => e = .returned (.tuple #[.int .u16 last, .int .u32 (bits : Int)]) ∧ ∃ q, w' = w.drewN q := by
  have c1 := hW.cell 1
  have c2 := hW.cell 2
  clear hW
  simp at c1 c2
  go_enter Try.func17, Try.ntmps17
  go_wp2_with fail
  go_quiet (fail)
  go_wp2
  go_ret2
  exact ⟨rfl, _, rfl⟩

/-- What a window's bits are behind a number that is d ahead. -/
def ahead (bits k : Nat) : Nat := bits * 2 ^ (k + 1) % 4294967296 ||| 2 ^ k % 4294967296
theorem pow_min (x m : Nat) : x * 2 ^ min m 32 % 4294967296 = x * 2 ^ m % 4294967296 := by
  by_cases h : m ≤ 32
  · rw [Nat.min_eq_left h]
  · rw [Nat.min_eq_right (by omega)]
    have e : 2 ^ m = 2 ^ 32 * 2 ^ (m - 32) := by rw [← Nat.pow_add]; congr 1; omega
    rw [e]
    simp only [Nat.reducePow]
    rw [Nat.mul_left_comm, Nat.mul_mod_right, Nat.mul_mod_left]
theorem ahead_walk (b k : Nat) : Go.bits BinOp.or IntKind.u32 ((b : Int) * 2 ^ min (k + 1) 32 % 4294967296) (2 ^ min k 32 % 4294967296) = ((ahead b k : Nat) : Int) := by
  have e1 : ((b : Int) * 2 ^ min (k + 1) 32 % 4294967296) = ((b * 2 ^ (k + 1) % 4294967296 : Nat) : Int) := by
    rw [← pow_min]; simp
  have e2 : ((2 : Int) ^ min k 32 % 4294967296) = ((2 ^ k % 4294967296 : Nat) : Int) := by
    have := pow_min 1 k
    rw [Nat.one_mul, Nat.one_mul] at this
    rw [← this]; simp
  rw [e1, e2, u32_or_nat _ _ (Nat.mod_lt _ (by decide)) (Nat.mod_lt _ (by decide))]
  rfl
theorem behind_walk (b k : Nat) (hb : b < 4294967296) (hk : k < 32) : Go.bits BinOp.or IntKind.u32 (b : Int) (2 ^ k % 4294967296) = ((b ||| 2 ^ k : Nat) : Int) := by
  have h1 : (2 : Nat) ^ k < 2 ^ 32 := Nat.pow_lt_pow_right (by decide) hk
  have e2 : ((2 : Int) ^ k % 4294967296) = ((2 ^ k : Nat) : Int) := by rw [pow_small k hk]; simp
  simp only [Nat.reducePow] at h1
  rw [e2, u32_or_nat _ _ hb h1]
set_option maxHeartbeats 1000000 in
theorem accept_first (g : Nat) (last : Int) (bits : Nat) (n : Int) (w : World) (hW : Win w g false last bits) :
    Calls Try.prog 16 #[.pointer (some ⟨g, 0, none⟩), .int .u16 n] w fun e w' => e = .returned (.bool true) ∧ Win w' g true n 0 ∧ w.grownBy w' (some g) := by
  have c0 := hW.cell 0
  have c1 := hW.cell 1
  have c2 := hW.cell 2
  have f0 := hW.free 0
  have f1 := hW.free 1
  have f2 := hW.free 2
  have HW := Lib.hid hW
  simp at c0 c1 c2
  have h := Lib.hid (dist_calls n last w)
  have hd := dist_lo n last
  clear hW
  generalize dist n last = d at *
  go_enter Try.func16, Try.ntmps16
  go_wp2_with (go_at_call 12; refine h.out.mono ?_; rintro e w' ⟨rfl, rfl⟩)
  go_region
  go_wp2
  go_ret
  refine ⟨rfl, ?_, ?_⟩
  · exact (((HW.out.put 0 _).put 2 _).put 1 _).of_ (by simp; decide)
  · exact only_drawn (only_put (only_put (only_put (World.grownBy.refl w (some g)) 0 _) 2 _) 1 _) 1

set_option maxHeartbeats 1000000 in
theorem accept_ahead (g : Nat) (last : Int) (bits : Nat) (n : Int) (k : Nat) (w : World) (hW : Win w g true last bits) (hd : dist n last = (k : Int) + 1) :
    Calls Try.prog 16 #[.pointer (some ⟨g, 0, none⟩), .int .u16 n] w fun e w' => e = .returned (.bool true) ∧ Win w' g true n (ahead bits k) ∧ w.grownBy w' (some g) := by
  have c0 := hW.cell 0
  have c1 := hW.cell 1
  have c2 := hW.cell 2
  have f0 := hW.free 0
  have f1 := hW.free 1
  have f2 := hW.free 2
  have HW := Lib.hid hW
  simp at c0 c1 c2
  have h := dist_calls n last w
  have hd2 := dist_lo n last
  rw [hd] at h hd2
  have H := Lib.hid h
  clear h
  have hk0 : (0 : Int) ≤ (k : Int) + 1 := by omega
  have es : IntKind.i64.wrap ((k : Int) + 1 - 1) = (k : Int) := by rw [show (k : Int) + 1 - 1 = k by omega]; exact IntWalk.i64_in _ (by omega)
  clear hW hd
  go_enter Try.func16, Try.ntmps16
  go_wp2_with (go_at_call 12; refine H.out.mono ?_; rintro e w' ⟨rfl, rfl⟩)
  go_region
  go_wp2
  go_ret
  refine ⟨rfl, ?_, ?_⟩
  · rw [ahead_walk]
    exact ((HW.out.put 2 _).put 1 _).of_ (by simp)
  · exact only_drawn (only_put (only_put (World.grownBy.refl w (some g)) 2 _) 1 _) 1

set_option maxHeartbeats 1000000 in
theorem accept_not (g : Nat) (last : Int) (bits : Nat) (n : Int) (w : World) (hW : Win w g true last bits) (hb : bits < 4294967296) (hd : dist n last ≤ 0) (h0 : dist n last = 0 ∨ dist n last < -32 ∨ bit bits (-dist n last - 1).toNat = true) :
    Calls Try.prog 16 #[.pointer (some ⟨g, 0, none⟩), .int .u16 n] w fun e w' => e = .returned (.bool false) ∧ w = w' := by
  have c0 := hW.cell 0
  have c1 := hW.cell 1
  have c2 := hW.cell 2
  have HW := Lib.hid hW
  simp at c0 c1 c2
  have h := Lib.hid (dist_calls n last w)
  have hd2 := dist_lo n last
  clear hW
  generalize dist n last = d at *
  by_cases e0 : d = 0
  · clear h0
    subst e0
    go_enter Try.func16, Try.ntmps16
    go_wp2_with (go_at_call 12; refine h.out.mono ?_; rintro e w' ⟨rfl, rfl⟩)
    go_ret
    exact ⟨rfl, rfl⟩
  have d0 : (d == 0) = false := beq_eq_false_iff_ne.2 e0
  by_cases e1 : d < -32
  · clear h0
    go_enter Try.func16, Try.ntmps16
    go_wp2_with (go_at_call 12; refine h.out.mono ?_; rintro e w' ⟨rfl, rfl⟩)
    go_ret
    exact ⟨rfl, rfl⟩
  · obtain ⟨k, hk⟩ : ∃ k : Nat, d = -((k : Int) + 1) := ⟨(-d - 1).toNat, by omega⟩
    have hbit : bit bits k = true := by
      rcases h0 with h | h | h
      · exact absurd h e0
      · exact absurd h e1
      · rw [hk] at h; rw [← h]; congr 1; omega
    have hw := bit_walk bits k hb
    rw [hbit] at hw
    clear h0 hbit
    subst hk
    go_enter Try.func16, Try.ntmps16
    go_wp2_with (go_at_call 12; refine h.out.mono ?_; rintro e w' ⟨rfl, rfl⟩)
    go_ret
    exact ⟨rfl, rfl⟩
set_option maxHeartbeats 1000000 in
theorem accept_behind (g : Nat) (last : Int) (bits : Nat) (n : Int) (k : Nat) (w : World) (hW : Win w g true last bits) (hb : bits < 4294967296) (hd : dist n last = -((k : Int) + 1)) (hk : k < 32) (h0 : bit bits k = false) :
    Calls Try.prog 16 #[.pointer (some ⟨g, 0, none⟩), .int .u16 n] w fun e w' => e = .returned (.bool true) ∧ Win w' g true last (bits ||| 2 ^ k) ∧ w.grownBy w' (some g) := by
  have c0 := hW.cell 0
  have c1 := hW.cell 1
  have c2 := hW.cell 2
  have f0 := hW.free 0
  have f1 := hW.free 1
  have f2 := hW.free 2
  have HW := Lib.hid hW
  simp at c0 c1 c2
  have h := dist_calls n last w
  rw [hd] at h
  have H := Lib.hid h
  clear h
  have hw := bit_walk bits k hb
  rw [h0] at hw
  clear hW hd h0
  have d0 : (-((k : Int) + 1) == 0) = false := beq_eq_false_iff_ne.2 (by omega)
  have es : IntKind.i64.wrap ((k : Int) + 1 - 1) = (k : Int) := by rw [show (k : Int) + 1 - 1 = k by omega]; exact IntWalk.i64_in _ (by omega)
  have es2 : IntKind.i64.wrap ((k : Int) + 1) = (k : Int) + 1 := IntWalk.i64_in _ (by omega)
  go_enter Try.func16, Try.ntmps16
  go_wp2_with (go_at_call 12; refine H.out.mono ?_; rintro e w' ⟨rfl, rfl⟩)
  go_region
  go_wp2
  go_ret
  refine ⟨rfl, ?_, ?_⟩
  · rw [behind_walk bits k hb hk]
    exact (HW.out.put 2 _).of_ (by simp)
  · exact only_drawn (only_put (World.grownBy.refl w (some g)) 2 _) 1

/-- The window's own law: is a number accepted, and what lies there then. -/
def accOk (s : Bool) (last : Int) (bits : Nat) (n : Int) : Bool :=
  if s = true then (if 0 < dist n last then true else if dist n last = 0 ∨ dist n last < -32 ∨ bit bits (-dist n last - 1).toNat = true then false else true) else true
def accLast (s : Bool) (last n : Int) : Int := if s = true ∧ dist n last ≤ 0 then last else n
def accBits (s : Bool) (last : Int) (bits : Nat) (n : Int) : Nat :=
  if s = true then (if 0 < dist n last then ahead bits (dist n last - 1).toNat else if dist n last = 0 ∨ dist n last < -32 ∨ bit bits (-dist n last - 1).toNat = true then bits else bits ||| 2 ^ (-dist n last - 1).toNat) else 0
theorem accept_calls (g : Nat) (s : Bool) (last : Int) (bits : Nat) (n : Int) (w : World) (hW : Win w g s last bits) (hb : bits < 4294967296) :
    Calls Try.prog 16 #[.pointer (some ⟨g, 0, none⟩), .int .u16 n] w fun e w' => e = .returned (.bool (accOk s last bits n)) ∧ Win w' g true (accLast s last n) (accBits s last bits n) ∧ w.grownBy w' (some g) := by
  cases s with
  | false => exact accept_first g last bits n w hW
  | true =>
    by_cases h1 : 0 < dist n last
    · obtain ⟨k, hk⟩ : ∃ k : Nat, dist n last = (k : Int) + 1 := ⟨(dist n last - 1).toNat, by omega⟩
      have e1 : accOk true last bits n = true := by unfold accOk; rw [if_pos rfl, if_pos h1]
      have e2 : accLast true last n = n := by unfold accLast; rw [if_neg (by omega)]
      have e3 : accBits true last bits n = ahead bits k := by unfold accBits; rw [if_pos rfl, if_pos h1]; congr 1; omega
      rw [e1, e2, e3]
      exact accept_ahead g last bits n k w hW hk
    · have e2 : accLast true last n = last := by unfold accLast; rw [if_pos ⟨rfl, by omega⟩]
      by_cases h2 : dist n last = 0 ∨ dist n last < -32 ∨ bit bits (-dist n last - 1).toNat = true
      · have e1 : accOk true last bits n = false := by unfold accOk; rw [if_pos rfl, if_neg h1, if_pos h2]
        have e3 : accBits true last bits n = bits := by unfold accBits; rw [if_pos rfl, if_neg h1, if_pos h2]
        rw [e1, e2, e3]
        exact (accept_not g last bits n w hW hb (by omega) h2).mono fun e w' ⟨he, hw⟩ => ⟨he, hw ▸ hW, hw ▸ World.grownBy.refl w _⟩
      · have e1 : accOk true last bits n = true := by unfold accOk; rw [if_pos rfl, if_neg h1, if_neg h2]
        have e3 : accBits true last bits n = bits ||| 2 ^ (-dist n last - 1).toNat := by unfold accBits; rw [if_pos rfl, if_neg h1, if_neg h2]
        rw [e1, e2, e3]
        exact accept_behind g last bits n (-dist n last - 1).toNat w hW hb (by omega) (by omega) (by
          rcases hx : bit bits (-dist n last - 1).toNat with _ | _
          · rfl
          · exact absurd (.inr (.inr hx)) h2)
theorem ahead_lt (b k : Nat) : ahead b k < 4294967296 := Nat.or_lt_two_pow (n := 32) (Nat.mod_lt _ (by decide)) (Nat.mod_lt _ (by decide))
theorem accBits_lt {s : Bool} {last : Int} {bits : Nat} {n : Int} (hb : bits < 4294967296) : accBits s last bits n < 4294967296 := by
  unfold accBits
  split
  · split
    · exact ahead_lt _ _
    · split
      · exact hb
      · rename_i h
        have hd := dist_lo n last
        have : (2 : Nat) ^ (-dist n last - 1).toNat < 2 ^ 32 := Nat.pow_lt_pow_right (by decide) (by omega)
        exact Nat.or_lt_two_pow (n := 32) hb this
  · decide
theorem accLast_lt {s : Bool} {last n : Int} (hl : 0 ≤ last ∧ last < 65536) (hn : 0 ≤ n ∧ n < 65536) : 0 ≤ accLast s last n ∧ accLast s last n < 65536 := by unfold accLast; split <;> assumption
end Go.Proofs.Ythcianalnhdgjaa
