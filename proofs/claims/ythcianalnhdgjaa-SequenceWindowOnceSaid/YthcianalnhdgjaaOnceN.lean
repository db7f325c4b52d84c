/-
  The plain law of a window that accepts no number twice: what is known of it by the numbers that were accepted.
-/
import Derived.Test.YthcianalnhdgjaaSet
namespace Go.Proofs.Ythcianalnhdgjaa
open Go.RowKit

/-- f tells of each place whether its number was accepted; newest is the highest; the window (last, bits) holds just these. -/
structure Inv (first newest : Int) (f : Int → Bool) (last : Int) (bits : Nat) : Prop where
  last_eq : last = (first + newest) % 65536
  lt : bits < 4294967296
  top : f newest = true
  up : ∀ x, newest < x → f x = false
  low : ∀ k, k < 32 → bits.testBit k = f (newest - ((k : Int) + 1))

/-- f, and x. -/
def mark (f : Int → Bool) (x : Int) : Int → Bool := fun y => decide (y = x) || f y
theorem mark_same (f : Int → Bool) (x : Int) : mark f x x = true := by simp [mark]
theorem mark_other (f : Int → Bool) {x y : Int} (h : y ≠ x) : mark f x y = f y := by simp [mark, h]

theorem dist_at {first at_ newest : Int} (h1 : -32767 ≤ at_ - newest) (h2 : at_ - newest ≤ 32767) : dist ((first + at_) % 65536) ((first + newest) % 65536) = at_ - newest := by unfold dist; omega

/-- The first number. -/
theorem Inv.start (first : Int) : Inv first 0 (mark (fun _ => false) 0) ((first + 0) % 65536) 0 :=
  ⟨rfl, by decide, mark_same _ _, fun x hx => by rw [mark_other _ (by omega)], fun k hk => by rw [mark_other _ (by omega)]; simp⟩

def wanted (f : Int → Bool) (newest at_ : Int) : Bool := decide (newest < at_) || (decide (newest - 32 ≤ at_) && !f at_)

theorem Inv.step {first newest : Int} {f : Int → Bool} {last : Int} {bits : Nat} (h : Inv first newest f last bits) {at_ : Int} (h1 : -32767 ≤ at_ - newest) (h2 : at_ - newest ≤ 32767) :
    accOk true last bits ((first + at_) % 65536) = wanted f newest at_ ∧
    (wanted f newest at_ = true → Inv first (max newest at_) (mark f at_) (accLast true last ((first + at_) % 65536)) (accBits true last bits ((first + at_) % 65536))) ∧
    (wanted f newest at_ = false → Inv first newest f (accLast true last ((first + at_) % 65536)) (accBits true last bits ((first + at_) % 65536))) := by
  have hd := dist_at (first := first) h1 h2
  rw [← h.last_eq] at hd
  unfold wanted
  by_cases c1 : newest < at_
  · obtain ⟨k, hk⟩ : ∃ k : Nat, at_ - newest = (k : Int) + 1 := ⟨(at_ - newest - 1).toNat, by omega⟩
    obtain ⟨e1, e2, e3⟩ := accBits_ahead (last := last) (n := (first + at_) % 65536) (bits := bits) (k := k) (by rw [hd]; exact hk)
    rw [e1, e2, e3]
    have hw : (decide (newest < at_) || (decide (newest - 32 ≤ at_) && !f at_)) = true := by simp [c1]
    rw [hw]
    refine ⟨rfl, fun _ => ?_, fun h => by cases h⟩
    have hm : max newest at_ = at_ := by omega
    rw [hm]
    refine ⟨rfl, ahead_lt _ _, mark_same _ _, fun x hx => by rw [mark_other _ (by omega)]; exact h.up x (by omega), fun i hi => ?_⟩
    rw [testBit_ahead, mark_other _ (by omega)]
    by_cases c2 : k + 1 ≤ i
    · have := h.low (i - (k + 1)) (by omega)
      rw [this]
      have e : newest - (((i - (k + 1) : Nat) : Int) + 1) = at_ - ((i : Int) + 1) := by omega
      rw [e]
      simp [hi, c2]
      omega
    · by_cases c3 : k = i
      · subst c3
        have e : at_ - ((k : Int) + 1) = newest := by omega
        rw [e, h.top]
        simp [hi]
      · rw [h.up _ (by omega)]
        simp [c2, c3]
  · by_cases c2 : at_ = newest
    · obtain ⟨e1, e2, e3⟩ := accBits_same (last := last) (n := (first + at_) % 65536) (bits := bits) (by rw [hd]; omega)
      rw [e1, e2, e3]
      have hw : (decide (newest < at_) || (decide (newest - 32 ≤ at_) && !f at_)) = false := by
        rw [c2, h.top]; simp
      rw [hw]
      exact ⟨rfl, (fun h => by cases h), fun _ => h⟩
    · by_cases c3 : newest - 32 ≤ at_
      · obtain ⟨k, hk⟩ : ∃ k : Nat, at_ - newest = -((k : Int) + 1) := ⟨(newest - at_ - 1).toNat, by omega⟩
        have hk32 : k < 32 := by omega
        obtain ⟨e1, e2, e3⟩ := accBits_behind (last := last) (n := (first + at_) % 65536) (bits := bits) (k := k) (by rw [hd]; exact hk) hk32
        have hf := h.low k hk32
        have e : newest - ((k : Int) + 1) = at_ := by omega
        rw [e] at hf
        rw [e1, e2, e3, hf]
        have hw : (decide (newest < at_) || (decide (newest - 32 ≤ at_) && !f at_)) = !f at_ := by simp [c1, c3]
        rw [hw]
        refine ⟨rfl, fun hy => ?_, fun hn => ?_⟩
        · have hm : max newest at_ = newest := by omega
          rw [hm]
          refine ⟨h.last_eq, or_lt h.lt hk32, by rw [mark_other _ (by omega)]; exact h.top, fun x hx => by rw [mark_other _ (by omega)]; exact h.up x hx, fun i hi => ?_⟩
          rw [Nat.testBit_or, Nat.testBit_two_pow, h.low i hi]
          by_cases c4 : k = i
          · subst c4
            rw [e, mark_same]; simp
          · rw [mark_other _ (by omega)]; simp [c4]
        · refine ⟨h.last_eq, or_lt h.lt hk32, h.top, h.up, fun i hi => ?_⟩
          rw [Nat.testBit_or, Nat.testBit_two_pow, h.low i hi]
          by_cases c4 : k = i
          · subst c4
            have : f at_ = true := by simpa using hn
            rw [e, this]; rfl
          · simp [c4]
      · have hd3 : dist ((first + at_) % 65536) last < -32 := by rw [hd]; omega
        have hc : dist ((first + at_) % 65536) last = 0 ∨ dist ((first + at_) % 65536) last < -32 ∨ bit bits (-dist ((first + at_) % 65536) last - 1).toNat = true := .inr (.inl hd3)
        have e1 : accBits true last bits ((first + at_) % 65536) = bits := by unfold accBits; rw [if_pos rfl, if_neg (by omega), if_pos hc]
        have e2 : accLast true last ((first + at_) % 65536) = last := by unfold accLast; rw [if_pos ⟨rfl, by omega⟩]
        have e3 : accOk true last bits ((first + at_) % 65536) = false := by unfold accOk; rw [if_pos rfl, if_neg (by omega), if_pos hc]
        rw [e1, e2, e3]
        have hw : (decide (newest < at_) || (decide (newest - 32 ≤ at_) && !f at_)) = false := by simp [c1, c3]
        rw [hw]
        exact ⟨rfl, (fun h => by cases h), fun _ => h⟩

/-- What the Ack tells of. -/
theorem Inv.tells {first newest : Int} {f : Int → Bool} {last : Int} {bits : Nat} (h : Inv first newest f last bits) (k : Nat) (hk : k ≤ 32) : acked last bits ((last - (k : Int)) % 65536) = f (newest - k) := by
  have hl := h.last_eq
  have hd : dist last ((last - (k : Int)) % 65536) = k := by unfold dist; omega
  unfold acked
  rw [hd, if_neg (by omega)]
  rcases k with _ | k
  · rw [if_neg (by omega)]
    have := h.top
    simp [this]
  · rw [if_pos (by omega)]
    have e : (((k + 1 : Nat) : Int) - 1).toNat = k := by omega
    rw [e, bit_test, h.low k (by omega)]
    congr 1

theorem tmod_hundred (n : Int) : -100 ≤ n.tmod 101 ∧ n.tmod 101 ≤ 100 := by
  rcases Int.le_total 0 n with h | h
  · rw [Int.tmod_eq_emod_of_nonneg h]; omega
  · obtain ⟨k, rfl⟩ : ∃ k, n = -k := ⟨-n, by omega⟩
    rw [Int.neg_tmod, Int.tmod_eq_emod_of_nonneg (by omega)]; omega
end Go.Proofs.Ythcianalnhdgjaa
