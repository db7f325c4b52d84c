/-
  The plain law of a window in whatever order near numbers come: it holds just their set.
-/
import Derived.Test.YthcianalnhdgjaaFar
namespace Go.Proofs.Ythcianalnhdgjaa
open Go.RowKit

/-- The number that is k + 1 behind. -/
def back (first : Int) (k : Nat) : Int := (first - ((k : Int) + 1)) % 65536
theorem back_range (first : Int) (k : Nat) : 0 ≤ back first k ∧ back first k < 65536 := by unfold back; omega
theorem dist_first (first : Int) (k : Nat) (hk : k < 32) : dist first (back first k) = (k : Int) + 1 := by unfold dist back; omega
theorem dist_to_first (first : Int) (k : Nat) (hk : k < 32) : dist (back first k) first = -((k : Int) + 1) := by unfold dist back; omega
theorem dist_backs (first : Int) (k m : Nat) (hk : k < 32) (hm : m < 32) : dist (back first k) (back first m) = (m : Int) - k := by unfold dist back; omega

theorem accBits_ahead {last n : Int} {bits k : Nat} (h : dist n last = (k : Int) + 1) : accBits true last bits n = ahead bits k ∧ accLast true last n = n ∧ accOk true last bits n = true := by
  refine ⟨?_, ?_, ?_⟩
  · unfold accBits; rw [if_pos rfl, if_pos (by omega)]; congr 1; omega
  · unfold accLast; rw [if_neg (by omega)]
  · unfold accOk; rw [if_pos rfl, if_pos (by omega)]
theorem accBits_same {last n : Int} {bits : Nat} (h : dist n last = 0) : accBits true last bits n = bits ∧ accLast true last n = last ∧ accOk true last bits n = false := by
  refine ⟨?_, ?_, ?_⟩
  · unfold accBits; rw [if_pos rfl, if_neg (by omega), if_pos (.inl h)]
  · unfold accLast; rw [if_pos ⟨rfl, by omega⟩]
  · unfold accOk; rw [if_pos rfl, if_neg (by omega), if_pos (.inl h)]
theorem accBits_behind {last n : Int} {bits k : Nat} (h : dist n last = -((k : Int) + 1)) (hk : k < 32) :
    accBits true last bits n = bits ||| 2 ^ k ∧ accLast true last n = last ∧ accOk true last bits n = !bits.testBit k := by
  have e : (-dist n last - 1).toNat = k := by omega
  by_cases hb : bit bits k = true
  · have hc : dist n last = 0 ∨ dist n last < -32 ∨ bit bits (-dist n last - 1).toNat = true := .inr (.inr (by rw [e]; exact hb))
    refine ⟨?_, ?_, ?_⟩
    · unfold accBits
      rw [if_pos rfl, if_neg (by omega), if_pos hc]
      apply Nat.eq_of_testBit_eq
      intro i
      rw [Nat.testBit_or, Nat.testBit_two_pow]
      by_cases hi : k = i
      · subst hi; rw [bit_test] at hb; simp [hb]
      · simp [hi]
    · unfold accLast; rw [if_pos ⟨rfl, by omega⟩]
    · unfold accOk; rw [if_pos rfl, if_neg (by omega), if_pos hc]; rw [bit_test] at hb; rw [hb]; rfl
  · have hc : ¬ (dist n last = 0 ∨ dist n last < -32 ∨ bit bits (-dist n last - 1).toNat = true) := by
      rw [e]
      rintro (h1 | h1 | h1)
      · omega
      · omega
      · exact hb h1
    refine ⟨?_, ?_, ?_⟩
    · unfold accBits; rw [if_pos rfl, if_neg (by omega), if_neg hc, e]
    · unfold accLast; rw [if_pos ⟨rfl, by omega⟩]
    · unfold accOk; rw [if_pos rfl, if_neg (by omega), if_neg hc]
      rw [bit_test] at hb
      simp at hb
      rw [hb]; rfl

theorem testBit_div (x n i : Nat) : (x / 2 ^ n).testBit i = x.testBit (n + i) := by rw [Nat.testBit_div_two_pow, Nat.add_comm]
theorem testBit_ahead (b k i : Nat) : (ahead b k).testBit i = (decide (i < 32) && (decide (k + 1 ≤ i) && b.testBit (i - (k + 1)) || decide (k = i))) := by
  unfold ahead
  rw [Nat.testBit_or]
  have e1 := Nat.testBit_mod_two_pow (b * 2 ^ (k + 1)) 32 i
  have e2 := Nat.testBit_mod_two_pow (2 ^ k) 32 i
  simp only [Nat.reducePow] at e1 e2
  rw [e1, e2, Nat.testBit_mul_two_pow, Nat.testBit_two_pow]
  by_cases h : i < 32 <;> simp [h]
theorem big_bit {x i : Nat} (h : x < 4294967296) (hi : 32 ≤ i) : x.testBit i = false := Nat.testBit_lt_two_pow (Nat.lt_of_lt_of_le h (by
  have := Nat.pow_le_pow_right (n := 2) (by decide) hi
  simpa using this))

/-- A window that holds just the numbers of the set q, none of them before m. -/
def Holds (first : Int) (q : Nat) (s : Bool) (last : Int) (bits : Nat) : Prop :=
  q < 4294967296 ∧ ((s = false ∧ q = 0) ∨ (s = true ∧ ∃ m, m < 32 ∧ q.testBit m = true ∧ (∀ j, j < m → q.testBit j = false) ∧ last = back first m ∧ bits = q / 2 ^ (m + 1)))
theorem Holds.lt {first : Int} {q : Nat} {last : Int} {bits : Nat} (h : Holds first q true last bits) : bits < 4294967296 := by
  obtain ⟨hq, ⟨h, _⟩ | ⟨_, m, _, _, _, _, rfl⟩⟩ := h
  · cases h
  · exact Nat.lt_of_le_of_lt (Nat.div_le_self _ _) hq
theorem or_lt {q k : Nat} (hq : q < 4294967296) (hk : k < 32) : q ||| 2 ^ k < 4294967296 :=
  Nat.or_lt_two_pow (n := 32) hq (Nat.pow_lt_pow_right (by decide) hk)
theorem Holds.step {first : Int} {q : Nat} {s : Bool} {last : Int} {bits k : Nat} (h : Holds first q s last bits) (hk : k < 32) :
    Holds first (q ||| 2 ^ k) true (accLast s last (back first k)) (accBits s last bits (back first k)) := by
  obtain ⟨hq, h⟩ := h
  refine ⟨or_lt hq hk, .inr ⟨rfl, ?_⟩⟩
  rcases h with ⟨rfl, rfl⟩ | ⟨rfl, m, hm, hqm, hlow, rfl, rfl⟩
  · refine ⟨k, hk, by simp [Nat.testBit_two_pow_self], fun j hj => by rw [Nat.zero_or, Nat.testBit_two_pow]; simp; omega, by unfold accLast; rw [if_neg (by simp)], ?_⟩
    show (0 : Nat) = _
    rw [Nat.zero_or, Nat.pow_succ, Nat.div_eq_of_lt (by have := Nat.two_pow_pos k; omega)]
  · have hd := dist_backs first k m hk hm
    by_cases h1 : k < m
    · obtain ⟨e1, e2, _⟩ := accBits_ahead (last := back first m) (n := back first k) (bits := q / 2 ^ (m + 1)) (k := m - k - 1) (by rw [hd]; omega)
      refine ⟨k, hk, by rw [Nat.testBit_or]; simp [Nat.testBit_two_pow_self], fun j hj => by rw [Nat.testBit_or, hlow j (by omega), Nat.testBit_two_pow]; simp; omega, e2, ?_⟩
      rw [e1]
      apply Nat.eq_of_testBit_eq
      intro i
      rw [testBit_ahead, testBit_div, testBit_div, Nat.testBit_or, Nat.testBit_two_pow]
      have hki : ¬ k = k + 1 + i := by omega
      by_cases hi : i < 32
      · by_cases h2 : m - k - 1 + 1 ≤ i
        · have : m + 1 + (i - (m - k - 1 + 1)) = k + 1 + i := by omega
          simp [hi, h2, hki, this]
          omega
        · by_cases h3 : m - k - 1 = i
          · have : k + 1 + i = m := by omega
            simp [hi, h3, this, hqm]
          · have : q.testBit (k + 1 + i) = false := hlow _ (by omega)
            simp [h2, h3, hki, this]
      · have : q.testBit (k + 1 + i) = false := big_bit hq (by omega)
        simp [hi, hki, this]
    · by_cases h2 : k = m
      · subst h2
        obtain ⟨e1, e2, _⟩ := accBits_same (last := back first k) (n := back first k) (bits := q / 2 ^ (k + 1)) (by rw [hd]; omega)
        have e : q ||| 2 ^ k = q := by
          apply Nat.eq_of_testBit_eq
          intro i
          rw [Nat.testBit_or, Nat.testBit_two_pow]
          by_cases hi : k = i
          · subst hi; simp [hqm]
          · simp [hi]
        rw [e1, e2, e]
        exact ⟨k, hk, hqm, hlow, rfl, rfl⟩
      · obtain ⟨e1, e2, _⟩ := accBits_behind (last := back first m) (n := back first k) (bits := q / 2 ^ (m + 1)) (k := k - m - 1) (by rw [hd]; omega) (by omega)
        refine ⟨m, hm, by rw [Nat.testBit_or, hqm]; rfl, fun j hj => by rw [Nat.testBit_or, hlow j hj, Nat.testBit_two_pow]; simp; omega, e2, ?_⟩
        rw [e1]
        apply Nat.eq_of_testBit_eq
        intro i
        rw [Nat.testBit_or, testBit_div, testBit_div, Nat.testBit_or, Nat.testBit_two_pow, Nat.testBit_two_pow]
        have : (k - m - 1 = i) = (k = m + 1 + i) := by apply propext; omega
        simp [this]
theorem Holds.first {first : Int} {q : Nat} {s : Bool} {last : Int} {bits : Nat} (h : Holds first q s last bits) :
    accLast s last first = first ∧ accBits s last bits first = q := by
  obtain ⟨hq, ⟨rfl, rfl⟩ | ⟨rfl, m, hm, hqm, hlow, rfl, rfl⟩⟩ := h
  · exact ⟨by unfold accLast; rw [if_neg (by simp)], rfl⟩
  · obtain ⟨e1, e2, _⟩ := accBits_ahead (bits := q / 2 ^ (m + 1)) (dist_first first m hm)
    refine ⟨e2, ?_⟩
    rw [e1]
    apply Nat.eq_of_testBit_eq
    intro i
    rw [testBit_ahead, testBit_div]
    by_cases hi : i < 32
    · by_cases h2 : m + 1 ≤ i
      · have : m + 1 + (i - (m + 1)) = i := by omega
        simp [hi, h2, this]
        omega
      · by_cases h3 : m = i
        · subst h3; simp [hi, hqm]
        · have : q.testBit i = false := hlow _ (by omega)
          simp [h2, h3, this]
    · simp [hi, big_bit hq (by omega : 32 ≤ i)]
/-- The first k bits of w, and all of q. -/
def low (q w : Nat) (k : Nat) : Nat := q ||| w % 2 ^ k
theorem low_zero (q w : Nat) : low q w 0 = q := by simp [low, Nat.mod_one]
theorem low_yes {q w k : Nat} (h : w.testBit k = true) : low q w k ||| 2 ^ k = low q w (k + 1) := by
  apply Nat.eq_of_testBit_eq
  intro i
  unfold low
  rw [Nat.testBit_or, Nat.testBit_or, Nat.testBit_or, Nat.testBit_mod_two_pow, Nat.testBit_mod_two_pow, Nat.testBit_two_pow]
  by_cases hi : k = i
  · subst hi; simp [h]
  · have : (i < k + 1) = (i < k) := by apply propext; omega
    simp [hi, this]
theorem low_no {q w k : Nat} (h : w.testBit k = false) : low q w (k + 1) = low q w k := by
  apply Nat.eq_of_testBit_eq
  intro i
  unfold low
  rw [Nat.testBit_or, Nat.testBit_or, Nat.testBit_mod_two_pow, Nat.testBit_mod_two_pow]
  by_cases hi : k = i
  · subst hi; simp [h]
  · have : (i < k + 1) = (i < k) := by apply propext; omega
    simp [this]
theorem low_lt {q w k : Nat} (hq : q < 4294967296) (hk : k ≤ 32) : low q w k < 4294967296 :=
  Nat.or_lt_two_pow (n := 32) hq (Nat.lt_of_lt_of_le (Nat.mod_lt _ (Nat.two_pow_pos k)) (Nat.pow_le_pow_right (by decide) hk))
theorem low_all {q w : Nat} (hw : w < 4294967296) (h : ∀ i, q.testBit i = true → w.testBit i = true) : low q w 32 = w := by
  unfold low
  rw [Nat.mod_eq_of_lt (show w < 2 ^ 32 from hw)]
  apply Nat.eq_of_testBit_eq
  intro i
  rw [Nat.testBit_or]
  rcases hq : q.testBit i with _ | _
  · simp
  · simp [h i hq]
theorem low_fresh (w k : Nat) : (low 0 w k).testBit k = false := by
  unfold low
  rw [Nat.zero_or, Nat.testBit_mod_two_pow]; simp
end Go.Proofs.Ythcianalnhdgjaa
