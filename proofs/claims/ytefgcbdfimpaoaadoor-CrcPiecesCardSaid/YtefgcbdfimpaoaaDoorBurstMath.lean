/-
  The plain law of bursts: at most sixteen bits in a row turned give another sum.
-/
import Derived.Test.YtefgcbdfimpaoaaDoorMath
namespace Go.Proofs.YtefgcbdfimpaoaaDoor.Crc
theorem Rn_xor : ∀ (n : Nat) {a b : Nat}, a < 65536 → b < 65536 → Rn n (a ^^^ b) = Rn n a ^^^ Rn n b
  | 0, _, _, _, _ => rfl
  | n + 1, a, b, ha, hb => by
    show Rn n (R (a ^^^ b)) = Rn n (R a) ^^^ Rn n (R b)
    rw [R_xor ha hb, Rn_xor n (R_lt ha) (R_lt hb)]
theorem Rn_add : ∀ (n m s : Nat), Rn (n + m) s = Rn m (Rn n s)
  | 0, m, s => by rw [Nat.zero_add]; rfl
  | n + 1, m, s => by
    rw [show n + 1 + m = (n + m) + 1 by omega]
    exact Rn_add n m (R s)
theorem more_split : ∀ (l : List Nat) (s t : Nat), s < 65536 → t < 65536 → (∀ c ∈ l, c < 256) → more (s ^^^ t) l = more s l ^^^ Rn (8 * l.length) t
  | [], _, _, _, _, _ => rfl
  | c :: l, s, t, hs, ht, hl => by
    have hc := hl c (by simp)
    have e : c ^^^ 0 = c := Nat.xor_zero c
    rw [more_cons, more_cons, ← e, step_xor hs ht hc (by decide), e, more_split l _ _ (step_lt hs hc) (step_lt ht (by decide)) (fun x hx => hl x (by simp [hx])), step_Rn ht (by decide)]
    rw [show 8 * (c :: l).length = 8 + 8 * l.length by simp; omega, Rn_add]
    simp
theorem shift_low : ∀ r : Fin 8, 128 / 2 ^ r.1 < 256 ∧ Rn 8 (128 / 2 ^ r.1 * 256) = Rn (8 - r.1) 32768 := by decide
theorem flip_more (s : Nat) (l : List Nat) (j r : Nat) (hs : s < 65536) (hl : ∀ c ∈ l, c < 256) (hj : j < l.length) (hr : r < 8) :
    more s (l.set j (l.getD j 0 ^^^ 128 / 2 ^ r)) = more s l ^^^ Rn (8 * (l.length - j) - r) 32768 := by
  obtain ⟨h1, h2⟩ := shift_low ⟨r, hr⟩
  simp only at h1 h2
  have hg : l.getD j 0 = l[j] := by rw [List.getD_eq_getElem?_getD, List.getElem?_eq_getElem hj]; rfl
  have hc : l[j] < 256 := hl _ (List.getElem_mem hj)
  have hS : more s (l.take j) < 65536 := more_lt hs (fun c hc => hl c (List.mem_of_mem_take hc))
  have e1 : l = l.take j ++ l[j] :: l.drop (j + 1) := by rw [← List.drop_eq_getElem_cons hj, List.take_append_drop]
  have e2 : l.set j (l.getD j 0 ^^^ 128 / 2 ^ r) = l.take j ++ (l[j] ^^^ 128 / 2 ^ r) :: l.drop (j + 1) := by
    rw [hg, List.set_eq_take_append_cons_drop, if_pos hj]
  have e3 : more s l = more (step (more s (l.take j)) l[j]) (l.drop (j + 1)) := by
    conv => lhs; rw [e1]
    rw [more_append, more_cons]
  rw [e2, more_append, more_cons, e3]
  have e4 : more s (l.take j) = more s (l.take j) ^^^ 0 := (Nat.xor_zero _).symm
  rw [e4, step_xor hS (by decide) hc h1, more_split _ _ _ (step_lt hS hc) (step_lt (by decide) h1) (fun c hc => hl c (List.mem_of_mem_drop hc)), ← e4]
  congr 1
  rw [step_Rn (by decide) h1, Nat.zero_xor, h2, ← Rn_add, List.length_drop]
  congr 1
  omega
theorem flip_lt (l : List Nat) (j r : Nat) (hl : ∀ c ∈ l, c < 256) (hj : j < l.length) (hr : r < 8) : ∀ c ∈ l.set j (l.getD j 0 ^^^ 128 / 2 ^ r), c < 256 := by
  intro c hc
  have hg : l.getD j 0 = l[j] := by rw [List.getD_eq_getElem?_getD, List.getElem?_eq_getElem hj]; rfl
  rcases List.mem_or_eq_of_mem_set hc with h | rfl
  · exact hl c h
  · rw [hg]; exact Nat.xor_lt_two_pow (n := 8) (hl _ (List.getElem_mem hj)) (shift_low ⟨r, hr⟩).1

/-- What the first k bits of the turn make of the bytes, from bit 'at' on. -/
def flips (l : List Nat) (p turn : Nat) : Nat → List Nat
  | 0 => l
  | k + 1 => if turn / 2 ^ (15 - k) % 2 = 1 then (flips l p turn k).set ((p + k) / 8) ((flips l p turn k).getD ((p + k) / 8) 0 ^^^ 128 / 2 ^ ((p + k) % 8)) else flips l p turn k
def acc (turn : Nat) : Nat → Nat
  | 0 => 0
  | k + 1 => one (acc turn k) (turn / 2 ^ (15 - k) % 2)
theorem acc_lt (turn : Nat) : ∀ k, acc turn k < 65536
  | 0 => (by decide : (0 : Nat) < 65536)
  | k + 1 => one_lt (acc_lt turn k) (Nat.mod_lt _ (by decide))
theorem acc_all (turn : Nat) : acc turn 16 = all 0 (bits 16 turn) := rfl
theorem flips_length (l : List Nat) (p turn : Nat) : ∀ k, (flips l p turn k).length = l.length
  | 0 => rfl
  | k + 1 => by unfold flips; split <;> simp [flips_length l p turn k]
theorem flips_more (s : Nat) (l : List Nat) (p turn : Nat) (hs : s < 65536) (hl : ∀ c ∈ l, c < 256) (hp : p + 16 ≤ 8 * l.length) : ∀ k, k ≤ 16 →
    (∀ c ∈ flips l p turn k, c < 256) ∧ more s (flips l p turn k) = more s l ^^^ Rn (8 * l.length - p - k) (acc turn k)
  | 0, _ => ⟨hl, by show _ = more s l ^^^ Rn (8 * l.length - p - 0) 0; rw [Rn_nought, Nat.xor_zero]; rfl⟩
  | k + 1, hk => by
    obtain ⟨h1, h2⟩ := flips_more s l p turn hs hl hp k (by omega)
    have hlen := flips_length l p turn k
    have hj : (p + k) / 8 < (flips l p turn k).length := by omega
    have hr : (p + k) % 8 < 8 := Nat.mod_lt _ (by decide)
    have hM : 8 * l.length - p - k = (8 * l.length - p - (k + 1)) + 1 := by omega
    have ht := acc_lt turn k
    by_cases hb : turn / 2 ^ (15 - k) % 2 = 1
    · have e : flips l p turn (k + 1) = (flips l p turn k).set ((p + k) / 8) ((flips l p turn k).getD ((p + k) / 8) 0 ^^^ 128 / 2 ^ ((p + k) % 8)) := by
        show (if _ then _ else _) = _
        rw [if_pos hb]
      rw [e]
      refine ⟨flip_lt _ _ _ h1 hj hr, ?_⟩
      rw [flip_more s _ _ _ hs h1 hj hr, h2, hlen, Nat.xor_assoc]
      congr 1
      have e2 : 8 * (l.length - (p + k) / 8) - (p + k) % 8 = 8 * l.length - p - k := by omega
      rw [e2, ← Rn_xor _ ht (by decide), hM]
      show Rn _ (R (acc turn k ^^^ 32768)) = Rn _ (one (acc turn k) (turn / 2 ^ (15 - k) % 2))
      rw [hb]; rfl
    · have e : flips l p turn (k + 1) = flips l p turn k := by
        show (if _ then _ else _) = _
        rw [if_neg hb]
      rw [e]
      refine ⟨h1, ?_⟩
      rw [h2, hM]
      congr 1
      show Rn _ (R (acc turn k)) = Rn _ (one (acc turn k) (turn / 2 ^ (15 - k) % 2))
      have : turn / 2 ^ (15 - k) % 2 = 0 := by omega
      rw [this, one, Nat.zero_mul, Nat.xor_zero]
/-- Bytes with a burst of sixteen bits turned have the same sum just where nothing is turned. -/
theorem bursts (s : Nat) (l : List Nat) (p turn : Nat) (hs : s < 65536) (hl : ∀ c ∈ l, c < 256) (hp : p + 16 ≤ 8 * l.length) (ht : turn < 65536) :
    (∀ c ∈ flips l p turn 16, c < 256) ∧ (more s l = more s (flips l p turn 16) ↔ turn = 0) := by
  obtain ⟨h1, h2⟩ := flips_more s l p turn hs hl hp 16 (by omega)
  refine ⟨h1, ?_⟩
  rw [h2, acc_all, all_bits 16 0 turn (by omega) (by omega) ht]
  simp only [Nat.sub_self, Nat.pow_zero, Nat.mul_one, Nat.zero_xor]
  constructor
  · intro h
    have h3 : more s l ^^^ more s l = more s l ^^^ (more s l ^^^ Rn (8 * l.length - p - 16) (Rn 16 turn)) := by rw [← h]
    rw [Nat.xor_self, ← Nat.xor_assoc, Nat.xor_self, Nat.zero_xor] at h3
    exact Rn_zero 16 ht (Rn_zero _ (Rn_lt 16 ht) h3.symm)
  · rintro rfl
    rw [Rn_nought, Rn_nought, Nat.xor_zero]
end Go.Proofs.YtefgcbdfimpaoaaDoor.Crc
