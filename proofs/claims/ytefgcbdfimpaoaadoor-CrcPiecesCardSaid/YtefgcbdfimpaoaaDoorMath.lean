/-
  The plain laws of the sum with 16 bits (polynomial 1021): steps by bits, by halves of bytes and by bytes; they are linear and lose nothing. No program in sight.
-/
namespace Go.Proofs.YtefgcbdfimpaoaaDoor.Crc

/-- One bit of noughts. -/
def R (s : Nat) : Nat := (s * 2 % 65536) ^^^ (s / 32768 * 4129)
/-- Four of them at once. -/
def Q (s : Nat) : Nat := (s * 16 % 65536) ^^^ (s / 4096 * 4129)
/-- What half a byte does, as the program has it. -/
def half (s h : Nat) : Nat := (s * 16 % 65536) ^^^ (((s / 4096) ^^^ h) * 4129)
def step (s c : Nat) : Nat := half (half s (c / 16)) (c % 16)
def more (s : Nat) (l : List Nat) : Nat := l.foldl step s
/-- A byte of noughts. -/
def L (s : Nat) : Nat := Q (Q s)

theorem lt16 {a b : Nat} (ha : a < 65536) (hb : b < 65536) : a ^^^ b < 65536 := Nat.xor_lt_two_pow (n := 16) ha hb
theorem xor_mul2 (a b k : Nat) : (a ^^^ b) * 2 ^ k = a * 2 ^ k ^^^ b * 2 ^ k := by
  simpa [Nat.shiftLeft_eq] using Nat.shiftLeft_xor_distrib (a := a) (b := b) (i := k)
theorem xor_div2 (a b k : Nat) : (a ^^^ b) / 2 ^ k = a / 2 ^ k ^^^ b / 2 ^ k := by
  simpa [Nat.shiftRight_eq_div_pow] using Nat.shiftRight_xor_distrib (a := a) (b := b) (i := k)
theorem xor_mod2 (a b k : Nat) : (a ^^^ b) % 2 ^ k = a % 2 ^ k ^^^ b % 2 ^ k := Nat.xor_mod_two_pow
theorem mul_poly : ∀ a : Fin 16, ∀ b : Fin 16, (a.1 ^^^ b.1) * 4129 = a.1 * 4129 ^^^ b.1 * 4129 := by decide
theorem mul_poly' {a b : Nat} (ha : a < 16) (hb : b < 16) : (a ^^^ b) * 4129 = a * 4129 ^^^ b * 4129 := mul_poly ⟨a, ha⟩ ⟨b, hb⟩
theorem xor_swap (a b c d : Nat) : (a ^^^ b) ^^^ (c ^^^ d) = (a ^^^ c) ^^^ (b ^^^ d) := by
  rw [Nat.xor_assoc, Nat.xor_assoc, ← Nat.xor_assoc b c d, Nat.xor_comm b c, Nat.xor_assoc c b d]
theorem poly_lt {a : Nat} (ha : a < 16) : a * 4129 < 65536 := by omega

theorem R_lt {s : Nat} (h : s < 65536) : R s < 65536 := lt16 (by omega) (by omega)
theorem Q_lt {s : Nat} (h : s < 65536) : Q s < 65536 := lt16 (by omega) (by omega)
theorem L_lt {s : Nat} (h : s < 65536) : L s < 65536 := Q_lt (Q_lt h)
theorem half_lt {s c : Nat} (h : s < 65536) (hc : c < 16) : half s c < 65536 :=
  lt16 (by omega) (poly_lt (Nat.xor_lt_two_pow (n := 4) (by omega) hc))
theorem step_lt {s c : Nat} (h : s < 65536) (hc : c < 256) : step s c < 65536 := half_lt (half_lt h (by omega)) (by omega)
theorem more_lt {s : Nat} {l : List Nat} (h : s < 65536) (hl : ∀ c ∈ l, c < 256) : more s l < 65536 := by
  induction l generalizing s with
  | nil => exact h
  | cons c l ih => exact ih (step_lt h (hl c (by simp))) (fun d hd => hl d (by simp [hd]))

theorem R_xor {a b : Nat} (ha : a < 65536) (hb : b < 65536) : R (a ^^^ b) = R a ^^^ R b := by
  unfold R
  have e1 := xor_mul2 a b 1
  have e2 := xor_mod2 (a * 2 ^ 1) (b * 2 ^ 1) 16
  have e3 := xor_div2 a b 15
  simp only [Nat.reducePow] at e1 e2 e3
  rw [e1, e2, e3, mul_poly' (by omega) (by omega), xor_swap]
theorem Q_xor {a b : Nat} (ha : a < 65536) (hb : b < 65536) : Q (a ^^^ b) = Q a ^^^ Q b := by
  unfold Q
  have e1 := xor_mul2 a b 4
  have e2 := xor_mod2 (a * 2 ^ 4) (b * 2 ^ 4) 16
  have e3 := xor_div2 a b 12
  simp only [Nat.reducePow] at e1 e2 e3
  rw [e1, e2, e3, mul_poly' (by omega) (by omega), xor_swap]
theorem L_xor {a b : Nat} (ha : a < 65536) (hb : b < 65536) : L (a ^^^ b) = L a ^^^ L b := by
  unfold L; rw [Q_xor ha hb, Q_xor (Q_lt ha) (Q_lt hb)]

theorem R_low {r : Nat} (h : r < 32768) : R r = r * 2 := by
  unfold R
  have e : r / 32768 = 0 := by omega
  rw [e]; simp; omega
theorem Q_low {r : Nat} (h : r < 4096) : Q r = r * 16 := by
  unfold Q
  have e : r / 4096 = 0 := by omega
  rw [e]; simp; omega
theorem L_low {r : Nat} (h : r < 256) : L r = r * 256 := by
  unfold L
  have e := Q_low (r := r) (by omega)
  rw [e, Q_low (by omega)]; omega

theorem xor_zero {a b : Nat} : a ^^^ b = 0 ↔ a = b := by
  constructor
  · intro h
    have : a ^^^ (a ^^^ b) = a := by rw [h, Nat.xor_zero]
    rw [← Nat.xor_assoc, Nat.xor_self, Nat.zero_xor] at this
    exact this.symm
  · rintro rfl
    exact Nat.xor_self a
/-- Nothing is lost. -/
theorem R_zero {s : Nat} (h : s < 65536) (e : R s = 0) : s = 0 := by
  unfold R at e
  rw [xor_zero] at e
  by_cases hs : s < 32768
  · have z : s / 32768 = 0 := by clear e; omega
    rw [z] at e
    omega
  · have z : s / 32768 = 1 := by clear e; omega
    rw [z] at e
    omega

/-- Four single bits are the four at once: asked at each of the 65536 numbers, by the kernel. -/
def four (n : Nat) : Bool := R (R (R (R n))) == Q n
def upTo (p : Nat → Bool) : Nat → Bool
  | 0 => true
  | n + 1 => p n && upTo p n
theorem upTo_at {p : Nat → Bool} : ∀ {n : Nat}, upTo p n = true → ∀ k, k < n → p k = true
  | 0, _, _, hk => absurd hk (Nat.not_lt_zero _)
  | n + 1, h, k, hk => by
    simp only [upTo, Bool.and_eq_true] at h
    rcases Nat.lt_succ_iff_lt_or_eq.1 hk with h' | rfl
    · exact upTo_at h.2 k h'
    · exact h.1
def byTwo (p : Nat → Bool) : Bool := upTo (fun a => upTo (fun b => p (a * 256 + b)) 256) 256
theorem byTwo_at {p : Nat → Bool} (h : byTwo p = true) (k : Nat) (hk : k < 65536) : p k = true := by
  have h1 := upTo_at h (k / 256) (by omega)
  have h2 := upTo_at h1 (k % 256) (by omega)
  have e : k / 256 * 256 + k % 256 = k := by omega
  simpa [e] using h2
theorem four_all : byTwo four = true := by decide +kernel
theorem four_eq {s : Nat} (h : s < 65536) : R (R (R (R s))) = Q s := by
  have := byTwo_at four_all s h
  simpa [four] using this

theorem Q_zero {s : Nat} (h : s < 65536) (e : Q s = 0) : s = 0 := by
  rw [← four_eq h] at e
  exact R_zero h (R_zero (R_lt h) (R_zero (R_lt (R_lt h)) (R_zero (R_lt (R_lt (R_lt h))) e)))
theorem L_zero {s : Nat} (h : s < 65536) (e : L s = 0) : s = 0 := Q_zero h (Q_zero (Q_lt h) e)

/-- A half of a byte: four single bits of the sum with the half xored in ahead. -/
theorem half_eq (s h : Nat) : half s h = Q (s ^^^ h * 4096) := by
  unfold half Q
  have e1 := xor_mul2 s (h * 4096) 4
  have e2 := xor_mod2 (s * 2 ^ 4) (h * 4096 * 2 ^ 4) 16
  have e3 := xor_div2 s (h * 4096) 12
  simp only [Nat.reducePow] at e1 e2 e3
  rw [e1, e2, e3]
  have e4 : h * 4096 * 16 % 65536 = 0 := by omega
  have e5 : h * 4096 / 4096 = h := by omega
  rw [e4, e5, Nat.xor_zero]

theorem add_xor {a b k : Nat} (h : b < 2 ^ k) : a * 2 ^ k + b = a * 2 ^ k ^^^ b := by
  have := Nat.shiftLeft_add_eq_or_of_lt h a
  rw [Nat.shiftLeft_eq] at this
  rw [this]
  apply Nat.eq_of_testBit_eq
  intro i
  rw [Nat.testBit_or, Nat.testBit_xor]
  by_cases hi : i < k
  · have : (a * 2 ^ k).testBit i = false := by
      rw [Nat.testBit_mul_two_pow]; simp; omega
    simp [this]
  · have : b.testBit i = false := Nat.testBit_lt_two_pow (Nat.lt_of_lt_of_le h (Nat.pow_le_pow_right (by decide) (by omega)))
    simp [this]

theorem split12 (c : Nat) : c * 256 = (c / 16 * 4096) ^^^ (c % 16 * 256) := by
  have h := add_xor (a := c / 16) (b := c % 16 * 256) (k := 12) (by have := Nat.mod_lt c (show 16 > 0 by decide); simp only [Nat.reducePow]; omega)
  have e : c / 16 * 2 ^ 12 + c % 16 * 256 = c * 256 := by simp only [Nat.reducePow]; omega
  rw [e] at h
  exact h
theorem step_eq {s c : Nat} (hs : s < 65536) (hc : c < 256) : step s c = L (s ^^^ c * 256) := by
  unfold step
  have h1 : c / 16 < 16 := by omega
  have h0 : c % 16 < 16 := by omega
  have hx : s ^^^ c / 16 * 4096 < 65536 := lt16 hs (by omega)
  rw [half_eq, half_eq]
  unfold L
  have e : c * 256 = (c / 16 * 4096) ^^^ (c % 16 * 256) := split12 c
  have e2 : c % 16 * 256 * 16 = c % 16 * 4096 := by omega
  rw [e, ← Nat.xor_assoc, Q_xor hx (by omega), Q_low (r := c % 16 * 256) (by omega), e2]

theorem more_nil (s : Nat) : more s [] = s := rfl
theorem more_cons (s c : Nat) (l : List Nat) : more s (c :: l) = more (step s c) l := rfl
theorem more_append (s : Nat) (a b : List Nat) : more s (a ++ b) = more (more s a) b := List.foldl_append
theorem more_snoc (s : Nat) (a : List Nat) (c : Nat) : more s (a ++ [c]) = step (more s a) c := by rw [more_append]; rfl

/-- Sums of what is xored. -/
theorem step_xor {s t c d : Nat} (hs : s < 65536) (ht : t < 65536) (hc : c < 256) (hd : d < 256) : step (s ^^^ t) (c ^^^ d) = step s c ^^^ step t d := by
  have hcd : c ^^^ d < 256 := Nat.xor_lt_two_pow (n := 8) hc hd
  rw [step_eq (lt16 hs ht) hcd, step_eq hs hc, step_eq ht hd]
  have e := xor_mul2 c d 8
  simp only [Nat.reducePow] at e
  rw [e, xor_swap, L_xor (lt16 hs (by omega)) (lt16 ht (by omega))]
theorem more_xor : ∀ (a b : List Nat) (s t : Nat), a.length = b.length → s < 65536 → t < 65536 → (∀ c ∈ a, c < 256) → (∀ c ∈ b, c < 256) →
    more (s ^^^ t) (List.zipWith (· ^^^ ·) a b) = more s a ^^^ more t b
  | [], [], s, t, _, _, _, _, _ => rfl
  | c :: a, d :: b, s, t, hl, hs, ht, ha, hb => by
    have hc := ha c (by simp)
    have hd := hb d (by simp)
    simp only [List.zipWith_cons_cons, more_cons]
    rw [step_xor hs ht hc hd]
    exact more_xor a b _ _ (by simpa using hl) (step_lt hs hc) (step_lt ht hd) (fun x hx => ha x (by simp [hx])) (fun x hx => hb x (by simp [hx]))
  | [], _ :: _, _, _, hl, _, _, _, _ => by simp at hl
  | _ :: _, [], _, _, hl, _, _, _, _ => by simp at hl

theorem step_inj {s t c : Nat} (hs : s < 65536) (ht : t < 65536) (hc : c < 256) (h : step s c = step t c) : s = t := by
  have e := step_xor hs ht hc hc
  rw [h, Nat.xor_self, Nat.xor_self, step_eq (lt16 hs ht) (by omega)] at e
  have z : s ^^^ t ^^^ 0 * 256 = s ^^^ t := by simp
  rw [z] at e
  exact xor_zero.1 (L_zero (lt16 hs ht) e)
theorem more_inj : ∀ (l : List Nat) (s t : Nat), s < 65536 → t < 65536 → (∀ c ∈ l, c < 256) → (more s l = more t l ↔ s = t)
  | [], _, _, _, _, _ => Iff.rfl
  | c :: l, s, t, hs, ht, hl => by
    have hc := hl c (by simp)
    rw [more_cons, more_cons, more_inj l _ _ (step_lt hs hc) (step_lt ht hc) (fun x hx => hl x (by simp [hx]))]
    exact ⟨step_inj hs ht hc, fun h => by rw [h]⟩

/-- With its own two bytes behind, the higher first, a sum comes to nothing. -/
theorem more_own {s : Nat} (h : s < 65536) : more s [s / 256, s % 256] = 0 := by
  simp only [more_cons, more_nil]
  have h1 : s / 256 < 256 := by omega
  have h0 : s % 256 < 256 := by omega
  have e0 := add_xor (a := s / 256) (b := s % 256) (k := 8) (by omega)
  simp only [Nat.reducePow] at e0
  have e' : s / 256 * 256 + s % 256 = s := by omega
  have e : s = (s / 256 * 256) ^^^ (s % 256) := by rw [← e0, e']
  have e1 : s ^^^ s / 256 * 256 = s % 256 := by
    have : s ^^^ s / 256 * 256 = ((s / 256 * 256) ^^^ (s % 256)) ^^^ (s / 256 * 256) := by rw [← e]
    rw [this, Nat.xor_comm (s / 256 * 256), Nat.xor_assoc, Nat.xor_self, Nat.xor_zero]
  rw [step_eq h h1, e1, step_eq (L_lt (by omega)) h0]
  rw [L_low h0, Nat.xor_self]; rfl

/-- One bit more of noughts, as the document's answer has it. -/
def Rn : Nat → Nat → Nat
  | 0, s => s
  | n + 1, s => Rn n (R s)
theorem Rn_lt : ∀ (n : Nat) {s : Nat}, s < 65536 → Rn n s < 65536
  | 0, _, h => h
  | n + 1, _, h => Rn_lt n (R_lt h)
theorem Rn_eight {s : Nat} (h : s < 65536) : Rn 8 s = L s := by
  show R (R (R (R (R (R (R (R s))))))) = _
  rw [four_eq h, four_eq (Q_lt h)]; rfl
theorem Rn_zero : ∀ (n : Nat) {s : Nat}, s < 65536 → Rn n s = 0 → s = 0
  | 0, _, _, e => e
  | n + 1, _, h, e => R_zero h (Rn_zero n (R_lt h) e)
theorem Rn_nought : ∀ n, Rn n 0 = 0
  | 0 => rfl
  | n + 1 => Rn_nought n
theorem step_Rn {s c : Nat} (hs : s < 65536) (hc : c < 256) : step s c = Rn 8 (s ^^^ c * 256) := by
  rw [step_eq hs hc, Rn_eight (lt16 hs (by omega))]

/-! Bit by bit. -/
def bits : Nat → Nat → List Nat
  | 0, _ => []
  | k + 1, v => v / 2 ^ k % 2 :: bits k v
def one (s b : Nat) : Nat := R (s ^^^ b * 32768)
def all (s : Nat) (l : List Nat) : Nat := l.foldl one s
theorem all_append (s : Nat) (a b : List Nat) : all s (a ++ b) = all (all s a) b := List.foldl_append
theorem bits_length : ∀ k v, (bits k v).length = k
  | 0, _ => rfl
  | k + 1, v => by simp [bits, bits_length k v]
theorem bits_mod : ∀ (k v m : Nat), k ≤ m → bits k (v % 2 ^ m) = bits k v
  | 0, _, _, _ => rfl
  | k + 1, v, m, h => by
    unfold bits
    rw [bits_mod k v m (by omega)]
    congr 1
    have e : 2 ^ m = 2 ^ k * 2 ^ (m - k) := by rw [← Nat.pow_add]; congr 1; omega
    rw [e, Nat.mod_mul_right_div_self]
    have e2 : 2 ^ (m - k) = 2 * 2 ^ (m - k - 1) := by rw [← Nat.pow_succ']; congr 1; omega
    rw [e2, Nat.mod_mul_right_mod]
theorem all_bits : ∀ (k s v : Nat), k ≤ 16 → s < 65536 → v < 2 ^ k → all s (bits k v) = Rn k (s ^^^ v * 2 ^ (16 - k))
  | 0, s, v, _, _, hv => by
    have : v = 0 := by simpa using hv
    subst this
    simp [all, bits, Rn]
  | k + 1, s, v, hk, hs, hv => by
    have hp : 2 ^ (k + 1) = 2 ^ k * 2 := Nat.pow_succ 2 k
    have hb : v / 2 ^ k < 2 := Nat.div_lt_of_lt_mul (by omega)
    have hm : v % 2 ^ k < 2 ^ k := Nat.mod_lt _ (Nat.two_pow_pos k)
    have hb2 : v / 2 ^ k % 2 = v / 2 ^ k := Nat.mod_eq_of_lt hb
    have hx : s ^^^ v / 2 ^ k * 32768 < 65536 := lt16 hs (by omega)
    have hq : 2 ^ (16 - k) = 2 ^ (16 - (k + 1)) * 2 := by rw [← Nat.pow_succ]; congr 1; omega
    have hq2 : 2 ^ k * 2 ^ (16 - (k + 1)) = 32768 := by rw [← Nat.pow_add, show k + (16 - (k + 1)) = 15 by omega]
    have hr : v % 2 ^ k * 2 ^ (16 - (k + 1)) < 32768 := by
      rw [← hq2]; exact Nat.mul_lt_mul_of_pos_right hm (Nat.two_pow_pos _)
    show all (one s (v / 2 ^ k % 2)) (bits k v) = Rn k (R (s ^^^ v * 2 ^ (16 - (k + 1))))
    unfold one
    rw [hb2, ← bits_mod k v k (Nat.le_refl _), all_bits k _ _ (by omega) (R_lt hx) hm, hq]
    congr 1
    have e : v * 2 ^ (16 - (k + 1)) = v / 2 ^ k * 32768 ^^^ v % 2 ^ k * 2 ^ (16 - (k + 1)) := by
      have := add_xor (a := v / 2 ^ k) (b := v % 2 ^ k * 2 ^ (16 - (k + 1))) (k := 15) (by simpa using hr)
      simp only [Nat.reducePow] at this
      rw [← this, ← hq2, ← Nat.mul_assoc, ← Nat.add_mul]
      congr 1
      have := Nat.div_add_mod v (2 ^ k)
      rw [Nat.mul_comm] at this
      omega
    rw [e, ← Nat.xor_assoc, R_xor hx (by omega), R_low hr, Nat.mul_assoc]

def bytesBits (l : List Nat) : List Nat := l.flatMap (bits 8)
theorem more_bits : ∀ (l : List Nat) (s : Nat), s < 65536 → (∀ c ∈ l, c < 256) → more s l = all s (bytesBits l)
  | [], _, _, _ => rfl
  | c :: l, s, hs, hl => by
    have hc := hl c (by simp)
    have e : bytesBits (c :: l) = bits 8 c ++ bytesBits l := rfl
    rw [more_cons, e, all_append, all_bits 8 s c (by omega) hs hc, more_bits l _ (step_lt hs hc) (fun x hx => hl x (by simp [hx])), step_Rn hs hc]
theorem all_noughts : ∀ n, all 0 (List.replicate n 0) = 0
  | 0 => rfl
  | n + 1 => by show all (one 0 0) (List.replicate n 0) = 0; exact all_noughts n
theorem one_lt {s b : Nat} (hs : s < 65536) (hb : b < 2) : one s b < 65536 := R_lt (lt16 hs (by omega))
theorem all_behind : ∀ (n s : Nat), s < 65536 → all s (List.replicate n 0) = 0 → s = 0
  | 0, _, _, e => e
  | n + 1, s, hs, e => by
    have h := all_behind n (one s 0) (one_lt hs (by decide)) e
    simp only [one, Nat.zero_mul, Nat.xor_zero] at h
    exact R_zero hs h
/-- A burst of sixteen bits that is not all noughts comes to something, whatever noughts stand around it. -/
theorem burst (i j t : Nat) (ht : t < 65536) (e : all 0 (List.replicate i 0 ++ bits 16 t ++ List.replicate j 0) = 0) : t = 0 := by
  rw [all_append, all_append, all_noughts, all_bits 16 0 t (by omega) (by omega) ht] at e
  simp only [Nat.sub_self, Nat.pow_zero, Nat.mul_one, Nat.zero_xor] at e
  exact Rn_zero 16 ht (all_behind j _ (Rn_lt 16 ht) e)

/-- A nought behind leaves just two sums as they are: asked at each of the 65536 numbers, by the kernel. -/
def stays (s : Nat) : Bool := (L s == s) == (s == 0 || s == 61471)
theorem stays_all : byTwo stays = true := by decide +kernel
theorem nought_behind {s : Nat} (h : s < 65536) : step s 0 = s ↔ (s = 0 ∨ s = 61471) := by
  have e := byTwo_at stays_all s h
  have z : s ^^^ 0 * 256 = s := by simp
  rw [step_eq h (by decide), z]
  simp only [stays, beq_iff_eq] at e
  constructor
  · intro hl
    rw [hl] at e
    simpa using e.symm
  · intro hs
    have : (s == 0 || s == 61471) = true := by simpa using hs
    rw [this] at e
    simpa using e
theorem nought_ahead : step 65535 0 ≠ 65535 := by decide
end Go.Proofs.YtefgcbdfimpaoaaDoor.Crc
