import Derived.Test.YtldgldibkibknaaShown
import Derived.Laws.Bits64b
import Derived.Deep.RegionWith
namespace Go.Proofs.Ytldgldibkibknaa
open Go.RowKit

/-- The reader's slice stays. -/
def Same0 (g : Nat) (w w' : World) : Prop := ∀ v u, Blk w g 60 #[v, u] → ∃ u', Blk w' g 60 #[v, u']
theorem Same0.refl (g : Nat) (w : World) : Same0 g w w := fun _ u h => ⟨u, h⟩
theorem Same0.drewN {g : Nat} {w w' : World} (h : Same0 g w w') (n : Nat) : Same0 g w (w'.drewN n) := h
theorem Same0.set {g : Nat} {w w' : World} (h : Same0 g w w') (x : Value) : Same0 g w (w'.setCell ⟨g, 1, none⟩ x) := fun v u hb => by
  obtain ⟨u', hb'⟩ := h v u hb
  exact ⟨x, (hb'.put 1 x).of_ (by simp)⟩

set_option maxRecDepth 100000 in
set_option maxHeartbeats 1000000 in
/-- **Get**: and the reader's slice stays. -/
theorem get2_calls (g : Nat) (l : List Nat) (a : Nat) (x : Int) (w : World) (h : Rr w g l a) :
    Calls Try.prog 17 #[.pointer (some ⟨g, 0, none⟩), .int .i64 x] w fun e w' => e = .returned (.tuple #[.int .u64 ((got l a (inn x)).1 : Nat), .bool (got l a (inn x)).2.1]) ∧ Rr w' g l (got l a (inn x)).2.2 ∧ w.grownBy w' (some g) ∧ Same0 g w w' := by
  have hn := inn_le x
  obtain ⟨n, hnx⟩ : ∃ n, inn x = n := ⟨_, rfl⟩
  have hW := within_calls x w
  rw [hnx] at hW hn ⊢
  have hat := h.at_le
  have hlen := h.len
  have HW := Lib.hid hW
  have HR := Lib.hid h
  obtain ⟨k, hk⟩ : ∃ k, 8 * l.length - a = k := ⟨_, rfl⟩
  have HL1 : Hid (Calls Try.prog 30 #[.pointer (some ⟨g, 0, none⟩)] w fun e w' => e = .returned (.int .i64 (k : Int)) ∧ ∃ n, w' = w.drewN n) := Lib.hid (by rw [← hk]; exact left_calls g l a w h)
  have HL2 : Hid (∀ m, Calls Try.prog 30 #[.pointer (some ⟨g, 0, none⟩)] (w.drewN m).drew fun e w' => e = .returned (.int .i64 (k : Int)) ∧ ∃ n, w' = (w.drewN m).drew.drewN n) := Lib.hid (fun m => by rw [← hk]; exact left_calls g l a _ (h.drewN m).drew)
  obtain ⟨c1, f1⟩ := h.cells
  clear h hW hnx
  by_cases hle : a + n ≤ 8 * l.length
  · have hg : got l a n = (num l a n, true, a + n) := by unfold got; rw [if_pos hle]
    have hkn : ¬ k < n := by omega
    rw [hg]
    clear hg
    go_enter Try.func17, Try.ntmps17
    go_wp2_with (first
      | (go_at_call 29; refine HW.out.mono ?_; rintro e w1 ⟨rfl, rfl⟩)
      | (go_at_call 30; refine HL1.out.mono ?_; rintro e w1 ⟨rfl, m, rfl⟩))
    go_loopw [4, 22] (fun v i wr => ∃ k : Nat, k ≤ n ∧ v = .int .u64 (num l a k : Nat) ∧ i = .int .i64 k ∧ Rr wr g l (a + k) ∧ w.grownBy wr (some g) ∧ Same0 g w wr) (fun v i wr => n - (iv i).toNat)
    case atStart => exact ⟨0, by omega, rfl, rfl, HR.out.drewN m, only_drawn (World.grownBy.refl w _) m, (Same0.refl g w).drewN m⟩
    case round =>
      clear hkn hk
      obtain ⟨k, hk, rfl, rfl, hr, hgr, hsm⟩ := hrel
      have HM := Lib.hid hsm
      clear hsm
      rcases Nat.lt_or_ge k n with hlt | hge
      · obtain ⟨c1, f1⟩ := hr.cells
        have hkn : (k : Int) < (n : Int) := by omega
        have HB := Lib.hid (bit_calls g l (a + k) (a + k) wr hr (by omega))
        obtain ⟨o, ho⟩ : ∃ o, obit l (a + k) = o := ⟨_, rfl⟩
        have ho1 : o ≤ 1 := by rw [← ho]; exact obit_le l _
        obtain ⟨m0, hm0⟩ : ∃ m0, num l a k = m0 := ⟨_, rfl⟩
        have hnum : num l a (k + 1) = m0 * 2 + o := by rw [num, hm0, ho]
        have hm63 : m0 < 9223372036854775808 := by
          have := num_lt l a k
          have hp : 2 ^ k ≤ 2 ^ 63 := Nat.pow_le_pow_right (by decide) (by omega)
          omega
        rw [hm0]
        have e1 : IntKind.u64.wrap ((m0 : Int) * 2) = ((m0 * 2 : Nat) : Int) := by rw [IntKind.wrap_u64]; omega
        have e2 : bits .or .u64 ((m0 : Int) * 2) (o : Int) = ((m0 * 2 + o : Nat) : Int) := by
          have := or_shl m0 o (by omega) ho1
          simpa using this
        obtain ⟨m1, hm1⟩ : ∃ m1, m0 * 2 + o = m1 := ⟨_, rfl⟩
        rw [hm1] at e2 hnum
        have e3 : IntKind.i64.wrap (((a + k : Nat) : Int) + 1) = ((a + k + 1 : Nat) : Int) := IntWalk.i64_in _ (by omega)
        have e4 : IntKind.i64.wrap ((k : Int) + 1) = ((k + 1 : Nat) : Int) := IntWalk.i64_in _ (by omega)
        obtain ⟨p, hp⟩ : ∃ p, a + k = p := ⟨_, rfl⟩
        rw [ho] at HB
        rw [hp] at c1 e3 HB hr
        have HR2 := Lib.hid hr
        have HG := Lib.hid hgr
        have HN := Lib.hid hnum
        have HP := Lib.hid hp
        clear hr hgr hnum hp hm1 hm0 ho
        go_wp2_with (go_at_call 31; refine HB.out.mono ?_; rintro e w1 ⟨rfl, rfl⟩)
        go_roundw
        case rel =>
          refine ⟨k + 1, hlt, by rw [HN.out], ?_, by rw [← Nat.add_assoc, HP.out]; exact HR2.out.set (p + 1) (by have := HP.out; omega), only_put HG.out 1 _, HM.out.set _⟩
          simp
        case measure => simp [iv]; omega
      · obtain rfl : k = n := by omega
        have hkn : ¬ (k : Int) < (k : Int) := by omega
        have HR2 := Lib.hid hr
        have HG := Lib.hid hgr
        clear hr hgr
        go_wp2
        go_ret2
        exact ⟨rfl, HR2.out, HG.out, HM.out⟩
  · have hg : got l a n = (0, false, 8 * l.length) := by unfold got; rw [if_neg hle]
    have hkn : (k : Int) < (n : Int) := by omega
    rw [hg]
    have e1 : IntKind.i64.wrap ((a : Int) + k) = ((8 * l.length : Nat) : Int) := by rw [IntWalk.i64_in _ (by omega)]; omega
    obtain ⟨T, hT⟩ : ∃ T, 8 * l.length = T := ⟨_, rfl⟩
    rw [hT] at e1 ⊢
    have HT := Lib.hid hT
    clear hT hle hg hk
    go_enter Try.func17, Try.ntmps17
    go_wp2_with (first
      | (go_at_call 29; refine HW.out.mono ?_; rintro e w1 ⟨rfl, rfl⟩)
      | (go_at_call 30; refine HL1.out.mono ?_; rintro e w1 ⟨rfl, m, rfl⟩))
    go_region_with (go_at_call 30; refine (HL2.out m).mono ?_; rintro e w1 ⟨rfl, m2, rfl⟩)
    all_goals go_wp2
    all_goals go_ret2
    all_goals exact ⟨rfl, by rw [← HT.out]; exact (HR.out.drewN _).set (8 * l.length) (Nat.le_refl _), only_put (only_drawn (World.grownBy.refl w _) _) 1 _, ((Same0.refl g w).drewN _).set _⟩

/-- A reader whose bytes lie at or beyond lo. -/
def Rl (w : World) (lo g : Nat) (l : List Nat) (a : Nat) : Prop := Rr w g l a ∧ ∃ A c u, Blk w g 60 #[.slice A l.length c, u] ∧ Rd w g A l.length (l.map bv) ∧ ∀ ad, A = some ad → lo ≤ ad.block
end Go.Proofs.Ytldgldibkibknaa
