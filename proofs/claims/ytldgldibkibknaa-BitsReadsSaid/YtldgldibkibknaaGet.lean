import Derived.Test.YtldgldibkibknaaReader
import Derived.Laws.Bits64b
import Derived.Deep.RegionWith
namespace Go.Proofs.Ytldgldibkibknaa
open Go.RowKit

/-- Bit k of bytes. -/
def obit (l : List Nat) (k : Nat) : Nat := l.getD (k / 8) 0 / 2 ^ (7 - k % 8) % 2
/-- n bits from a on, as a number. -/
def num (l : List Nat) (a : Nat) : Nat → Nat
  | 0 => 0
  | n + 1 => num l a n * 2 + obit l (a + n)
theorem obit_le (l : List Nat) (k : Nat) : obit l k ≤ 1 := by unfold obit; omega
theorem num_lt (l : List Nat) (a n : Nat) : num l a n < 2 ^ n := by
  induction n with
  | zero => simp [num]
  | succ n ih =>
    have := obit_le l (a + n)
    rw [num, Nat.pow_succ]; omega

/-- **left.** -/
theorem left_calls (g : Nat) (l : List Nat) (a : Nat) (w : World) (h : Rr w g l a) :
    Calls Try.prog 30 #[.pointer (some ⟨g, 0, none⟩)] w fun e w' => e = .returned (.int .i64 ((8 * l.length - a : Nat) : Int)) ∧ ∃ n, w' = w.drewN n := by
  obtain ⟨⟨A, c, hb, _⟩, _, ha, hl⟩ := h
  have c0 := hb.cell 0
  have c1 := hb.cell 1
  simp only [List.getElem?_toArray, List.getElem?_cons_zero, List.getElem?_cons_succ] at c0 c1
  have e1 : IntKind.i64.wrap ((l.length : Int) * 8) = (l.length : Int) * 8 := IntWalk.i64_in _ (by omega)
  have e2 : IntKind.i64.wrap ((l.length : Int) * 8 - a) = ((8 * l.length - a : Nat) : Int) := by rw [IntWalk.i64_in _ (by omega)]; omega
  obtain ⟨k, hk⟩ : ∃ k, 8 * l.length - a = k := ⟨_, rfl⟩
  rw [hk] at e2 ⊢
  clear hb ha hl hk
  go_enter Try.func30, Try.ntmps30
  go_wp2_with fail
  go_quiet (fail)
  go_wp2
  go_ret
  exact ⟨rfl, _, rfl⟩

/-- **bit.** -/
theorem bit_calls (g : Nat) (l : List Nat) (a k : Nat) (w : World) (h : Rr w g l a) (hk : k < 8 * l.length) :
    Calls Try.prog 31 #[.pointer (some ⟨g, 0, none⟩), .int .i64 k] w fun e w' => e = .returned (.int .u64 (obit l k : Nat)) ∧ w = w' := by
  obtain ⟨⟨A, c, hb, hr⟩, hs, ha, hl⟩ := h
  have c0 := hb.cell 0
  simp only [List.getElem?_toArray, List.getElem?_cons_zero] at c0
  obtain ⟨b, off, u, rfl, hB, hu, hcell⟩ := hr.at_ (k := k / 8) (by omega)
  obtain ⟨x, hx⟩ : ∃ x, l.getD (k / 8) 0 = x := ⟨_, rfl⟩
  have hx2 : u = .int .u8 (x : Nat) := by
    have hlt : k / 8 < l.length := by omega
    rw [← hx]
    simp [hlt, bv] at hu
    simp [List.getD, hlt, ← hu]
  subst hx2
  have hx8 : x < 256 := by
    have hlt : k / 8 < l.length := by omega
    rw [← hx, List.getD_eq_getElem?_getD, List.getElem?_eq_getElem hlt]
    exact hs _ (List.getElem_mem hlt)
  have e1 : IntKind.i64.wrap ((k : Int) / 8) = ((k / 8 : Nat) : Int) := by rw [IntWalk.i64_in _ (by omega)]; simp
  have e3 : IntKind.i64.wrap (7 - (k : Int) % 8) = ((7 - k % 8 : Nat) : Int) := by rw [IntWalk.i64_in _ (by omega)]; omega
  have e4 : IntKind.i64.wrap (7 - (k : Int).tmod 8) = ((7 - k % 8 : Nat) : Int) := by rw [Int.tmod_eq_emod_of_nonneg (by omega)]; exact e3
  have ho : obit l k = x / 2 ^ (7 - k % 8) % 2 := by unfold obit; rw [hx]
  rw [ho]
  have hi0 : k / 8 < l.length := by omega
  obtain ⟨q, hq⟩ : ∃ q, k / 8 = q := ⟨_, rfl⟩
  obtain ⟨s, hs2⟩ : ∃ s, 7 - k % 8 = s := ⟨_, rfl⟩
  rw [hq] at e1 hcell hi0
  rw [hs2] at e3 e4 ⊢
  have hi1 : (q : Int) < (l.length : Int) := by omega
  have e5 : bits .and .u8 ((x : Int) / 2 ^ s) 1 = ((x / 2 ^ s % 2 : Nat) : Int) := by
    have h8 : x / 2 ^ s < 256 := Nat.lt_of_le_of_lt (Nat.div_le_self _ _) hx8
    have hd : ((x : Int) / 2 ^ s) = ((x / 2 ^ s : Nat) : Int) := by simp
    rw [hd]
    generalize x / 2 ^ s = y at *
    have := (by decide +kernel : ∀ y : Fin 256, bits .and .u8 ((y.val : Nat) : Int) 1 = ((y.val % 2 : Nat) : Int)) ⟨y, h8⟩
    exact this
  obtain ⟨y, hy⟩ : ∃ y, x / 2 ^ s % 2 = y := ⟨_, rfl⟩
  have e5b : bits .and .u8 ((x : Int) / 2 ^ min s 8) 1 = ((x / 2 ^ s % 2 : Nat) : Int) := by rw [Nat.min_eq_left (by omega)]; exact e5
  rw [hy] at e5 e5b ⊢
  have e6 : IntKind.u64.wrap (y : Int) = (y : Int) := by rw [IntKind.wrap_u64]; omega
  clear hb hr ho ha hl hy hq hs2 hx hk hu hi0
  go_enter Try.func31, Try.ntmps31
  go_wp2
  go_ret
  exact ⟨rfl, rfl⟩

theorem Rr.set {w : World} {g : Nat} {l : List Nat} {a : Nat} (h : Rr w g l a) (b : Nat) (hb : b ≤ 8 * l.length) : Rr (w.setCell ⟨g, 1, none⟩ (.int .i64 b)) g l b := by
  obtain ⟨⟨A, c, hk, hr⟩, h2, h3, h4⟩ := h
  exact ⟨⟨A, c, (hk.put 1 _).of_ (by simp), hr.keep fun p hp => World.cell?_of_block (Below.heap_setCell w ⟨g, 1, none⟩ _ _ (by simp; omega))⟩, h2, hb, h4⟩
theorem Rr.cells {w : World} {g : Nat} {l : List Nat} {a : Nat} (h : Rr w g l a) : w.cell? ⟨g, 1, none⟩ = some (.int .i64 a) ∧ w.frozen? ⟨g, 1, none⟩ = false := by
  obtain ⟨⟨A, c, hk, hr⟩, h2, h3, h4⟩ := h
  have := hk.cell 1
  exact ⟨by simpa using this, hk.free 1⟩
theorem Rr.drewN {w : World} {g : Nat} {l : List Nat} {a : Nat} (h : Rr w g l a) (n : Nat) : Rr (w.drewN n) g l a := h.keep fun _ _ => rfl
theorem Rr.drew {w : World} {g : Nat} {l : List Nat} {a : Nat} (h : Rr w g l a) : Rr w.drew g l a := h.keep fun _ _ => rfl

/-- What Get does. -/
def got (l : List Nat) (a n : Nat) : Nat × Bool × Nat := if a + n ≤ 8 * l.length then (num l a n, true, a + n) else (0, false, 8 * l.length)

theorem or_shl (m b : Nat) (hm : m * 2 < 18446744073709551616) (hb : b ≤ 1) : bits .or .u64 ((m * 2 : Nat) : Int) (b : Int) = ((m * 2 + b : Nat) : Int) := by
  rw [bits_or_u64_nat _ _ hm (by omega)]
  have := Nat.two_pow_add_eq_or_of_lt (i := 1) (b := b) (by omega) m
  rw [Nat.pow_one, Nat.mul_comm 2 m] at this
  rw [← this]

set_option maxRecDepth 100000 in
set_option maxHeartbeats 1000000 in
/-- **Get.** -/
theorem get_calls (g : Nat) (l : List Nat) (a : Nat) (x : Int) (w : World) (h : Rr w g l a) :
    Calls Try.prog 17 #[.pointer (some ⟨g, 0, none⟩), .int .i64 x] w fun e w' => e = .returned (.tuple #[.int .u64 ((got l a (inn x)).1 : Nat), .bool (got l a (inn x)).2.1]) ∧ Rr w' g l (got l a (inn x)).2.2 ∧ w.grownBy w' (some g) := by
  have hn := inn_le x
  obtain ⟨n, hnx⟩ : ∃ n, inn x = n := ⟨_, rfl⟩
  have hW := within_calls x w
  rw [hnx] at hW hn ⊢
  have hat := h.at_le
  have hlen := h.len
  have HW := Lib.hid hW
  have HR := Lib.hid h
  obtain ⟨k, hk⟩ : ∃ k, 8 * l.length - a = k := ⟨_, rfl⟩
  have HL1 : Hid (Calls Try.prog 30 #[.pointer (some ⟨g, 0, none⟩)] w fun e w' => e = .returned (.int .i64 (k : Int)) ∧ ∃ n, w' = w.drewN n) := Lib.hid (by rw [← hk]; exact left_calls g l a w h)
  have HL2 : Hid (∀ m, Calls Try.prog 30 #[.pointer (some ⟨g, 0, none⟩)] (w.drewN m).drew fun e w' => e = .returned (.int .i64 (k : Int)) ∧ ∃ n, w' = (w.drewN m).drew.drewN n) := Lib.hid (fun m => by rw [← hk]; exact left_calls g l a _ (h.drewN m).drew)
  obtain ⟨c1, f1⟩ := h.cells
  clear h hW hnx
  by_cases hle : a + n ≤ 8 * l.length
  · have hg : got l a n = (num l a n, true, a + n) := by unfold got; rw [if_pos hle]
    have hkn : ¬ k < n := by omega
    rw [hg]
    clear hg
    go_enter Try.func17, Try.ntmps17
    go_wp2_with (first
      | (go_at_call 29; refine HW.out.mono ?_; rintro e w1 ⟨rfl, rfl⟩)
      | (go_at_call 30; refine HL1.out.mono ?_; rintro e w1 ⟨rfl, m, rfl⟩))
    go_loopw [4, 22] (fun v i wr => ∃ k : Nat, k ≤ n ∧ v = .int .u64 (num l a k : Nat) ∧ i = .int .i64 k ∧ Rr wr g l (a + k) ∧ w.grownBy wr (some g)) (fun v i wr => n - (iv i).toNat)
    case atStart => exact ⟨0, by omega, rfl, rfl, HR.out.drewN m, only_drawn (World.grownBy.refl w _) m⟩
    case round =>
      clear hkn hk
      obtain ⟨k, hk, rfl, rfl, hr, hgr⟩ := hrel
      rcases Nat.lt_or_ge k n with hlt | hge
      · obtain ⟨c1, f1⟩ := hr.cells
        have hkn : (k : Int) < (n : Int) := by omega
        have HB := Lib.hid (bit_calls g l (a + k) (a + k) wr hr (by omega))
        obtain ⟨o, ho⟩ : ∃ o, obit l (a + k) = o := ⟨_, rfl⟩
        have ho1 : o ≤ 1 := by rw [← ho]; exact obit_le l _
        obtain ⟨m0, hm0⟩ : ∃ m0, num l a k = m0 := ⟨_, rfl⟩
        have hnum : num l a (k + 1) = m0 * 2 + o := by rw [num, hm0, ho]
        have hm63 : m0 < 9223372036854775808 := by
          have := num_lt l a k
          have hp : 2 ^ k ≤ 2 ^ 63 := Nat.pow_le_pow_right (by decide) (by omega)
          omega
        rw [hm0]
        have e1 : IntKind.u64.wrap ((m0 : Int) * 2) = ((m0 * 2 : Nat) : Int) := by rw [IntKind.wrap_u64]; omega
        have e2 : bits .or .u64 ((m0 : Int) * 2) (o : Int) = ((m0 * 2 + o : Nat) : Int) := by
          have := or_shl m0 o (by omega) ho1
          simpa using this
        obtain ⟨m1, hm1⟩ : ∃ m1, m0 * 2 + o = m1 := ⟨_, rfl⟩
        rw [hm1] at e2 hnum
        have e3 : IntKind.i64.wrap (((a + k : Nat) : Int) + 1) = ((a + k + 1 : Nat) : Int) := IntWalk.i64_in _ (by omega)
        have e4 : IntKind.i64.wrap ((k : Int) + 1) = ((k + 1 : Nat) : Int) := IntWalk.i64_in _ (by omega)
        obtain ⟨p, hp⟩ : ∃ p, a + k = p := ⟨_, rfl⟩
        rw [ho] at HB
        rw [hp] at c1 e3 HB hr
        have HR2 := Lib.hid hr
        have HG := Lib.hid hgr
        have HN := Lib.hid hnum
        have HP := Lib.hid hp
        clear hr hgr hnum hp hm1 hm0 ho
        go_wp2_with (go_at_call 31; refine HB.out.mono ?_; rintro e w1 ⟨rfl, rfl⟩)
        go_roundw
        case rel =>
          refine ⟨k + 1, hlt, by rw [HN.out], ?_, by rw [← Nat.add_assoc, HP.out]; exact HR2.out.set (p + 1) (by have := HP.out; omega), only_put HG.out 1 _⟩
          simp
        case measure => simp [iv]; omega
      · obtain rfl : k = n := by omega
        have hkn : ¬ (k : Int) < (k : Int) := by omega
        have HR2 := Lib.hid hr
        have HG := Lib.hid hgr
        clear hr hgr
        go_wp2
        go_ret2
        exact ⟨rfl, HR2.out, HG.out⟩
  · have hg : got l a n = (0, false, 8 * l.length) := by unfold got; rw [if_neg hle]
    have hkn : (k : Int) < (n : Int) := by omega
    rw [hg]
    have e1 : IntKind.i64.wrap ((a : Int) + k) = ((8 * l.length : Nat) : Int) := by rw [IntWalk.i64_in _ (by omega)]; omega
    obtain ⟨T, hT⟩ : ∃ T, 8 * l.length = T := ⟨_, rfl⟩
    rw [hT] at e1 ⊢
    have HT := Lib.hid hT
    clear hT hle hg hk
    go_enter Try.func17, Try.ntmps17
    go_wp2_with (first
      | (go_at_call 29; refine HW.out.mono ?_; rintro e w1 ⟨rfl, rfl⟩)
      | (go_at_call 30; refine HL1.out.mono ?_; rintro e w1 ⟨rfl, m, rfl⟩))
    go_region_with (go_at_call 30; refine (HL2.out m).mono ?_; rintro e w1 ⟨rfl, m2, rfl⟩)
    all_goals go_wp2
    all_goals go_ret2
    all_goals exact ⟨rfl, by rw [← HT.out]; exact (HR.out.drewN _).set (8 * l.length) (Nat.le_refl _), only_put (only_drawn (World.grownBy.refl w _) _) 1 _⟩
end Go.Proofs.Ytldgldibkibknaa
