/-
  Texts of bits: the document's answer for layer 3, walked.
-/
import Derived.Test.YtldgldibkibknaaWholeN
import Derived.Deep.RegionWith
import Derived.Laws.Concat
namespace Go.Proofs.Ytldgldibkibknaa
open Go.RowKit

/-- Bits as a text. -/
def tx (bs : List Bool) : ByteArray := str (bs.map fun b => if b then 49 else 48)
theorem tx_nil : tx [] = ⟨#[]⟩ := rfl
theorem str_app (a b : List Nat) : str a ++ str b = str (a ++ b) := by
  apply ByteArray.ext
  simp [str]
theorem tx_app (a b : List Bool) : tx a ++ tx b = tx (a ++ b) := by
  unfold tx; rw [str_app, List.map_append]
theorem tx_size (a : List Bool) : (tx a).size = a.length := by unfold tx; rw [str_size]; simp
theorem count_calls (x : Int) (w : World) : Calls Try.prog 21 #[.int .i64 x] w fun e w' => e = .returned (.int .i64 (inn x)) ∧ w' = w := by
  have hi : Hid (((inn x : Nat) : Int) = max 0 (min x 64)) := Lib.hid (by unfold inn; omega)
  go_enter Try.func21, Try.ntmps21
  go_wp2
  all_goals
    have hi := hi.out
    go_ret
    exact ⟨ret_i64 (by omega), rfl⟩
theorem hb_succ (N k : Nat) : hb N (k + 1) = decide (N / 2 ^ k % 2 = 1) :: hb N k := by
  rw [hb_split N (k + 1) k (by omega), Nat.add_sub_cancel_left]
  have : hb (N / 2 ^ k) 1 = [decide (N / 2 ^ k % 2 = 1)] := by
    generalize N / 2 ^ k = M
    simp [hb, ht]
  rw [this]; rfl

theorem one_run (W : World) (b : Nat) : (Go.convert 27 9 (.slice (some ⟨W.heap.size, 0, none⟩) 1 1)).run Try.prog (W.alloc (.cells #[.int .u8 (48 + (b : Int))] 5)) = .ok (.string (str [48 + b])) (W.alloc (.cells #[.int .u8 (48 + (b : Int))] 5)) :=
  run_string_rd _ 27 5 9 Try.underlying27 Try.underlying5 Try.underlying9 1 ((Rd.lit W #[.int .u8 (48 + (b : Int))] 5 (0, 0)).of_ (by simp [bv]))
theorem tx_bit (b : Nat) (hb : b < 2) (bs : List Bool) : str [48 + b] ++ tx bs = tx (decide (b = 1) :: bs) := by
  rw [show decide (b = 1) :: bs = [decide (b = 1)] ++ bs from rfl, ← tx_app]
  congr 1
  obtain rfl | rfl : b = 0 ∨ b = 1 := by omega
  · rfl
  · rfl

set_option maxRecDepth 100000 in
set_option maxHeartbeats 1500000 in
theorem text_calls (N : Nat) (x : Int) (hN : N < 18446744073709551616) (w : World) :
    Calls Try.prog 26 #[.int .u64 N, .int .i64 x] w fun e w' => e = .returned (.string (tx (hb N (inn x)))) ∧ w.grownBy w' none := by
  have HC := Lib.hid (count_calls x)
  have HM : Hid (inn x ≤ 64) := Lib.hid (inn_le x)
  obtain ⟨m, hm⟩ : ∃ m, inn x = m := ⟨_, rfl⟩
  rw [hm] at HC HM ⊢
  clear hm
  go_enter Try.func26, Try.ntmps26
  go_wp2_with fail
  go_loopw [0, 5, 6] (fun nv sv ivv wr => ∃ (k M : Nat) (S : ByteArray), k ≤ m ∧ nv = .int .u64 M ∧ M < 18446744073709551616 ∧ sv = .string S ∧ ivv = .int .i64 k ∧ Hid (N / 2 ^ k = M) ∧ Hid (S = tx (hb N k)) ∧ Hid (w.grownBy wr none)) (fun _ _ i _ => m - (iv i).toNat)
  case atStart => exact ⟨0, N, _, by omega, rfl, hN, rfl, rfl, Lib.hid (by simp), Lib.hid rfl, Lib.hid (World.grownBy.refl w none)⟩
  case round =>
    obtain ⟨k, M, S, hk, rfl, hM, rfl, rfl, HNM, HS, HG⟩ := hrel
    have hm64 := HM.out
    go_wp2_with fail
    refine (HC.out wr).mono ?_
    rintro e w1 ⟨rfl, rfl⟩
    by_cases hlt : k < m
    · obtain ⟨b, hbb⟩ : ∃ b, M % 2 = b := ⟨_, rfl⟩
      obtain ⟨q, hq⟩ : ∃ q, M / 2 = q := ⟨_, rfl⟩
      have er : (M : Int).tmod 2 = (b : Int) := by rw [Int.tmod_eq_emod_of_nonneg (by omega)]; omega
      have eq : (M : Int).tdiv 2 = (q : Int) := by rw [Int.tdiv_eq_ediv_of_nonneg (by omega)]; omega
      have e48 : IntKind.u64.wrap (48 + (b : Int)) = 48 + (b : Int) := by rw [IntKind.wrap_u64]; omega
      have e8 : IntKind.u8.wrap (48 + (b : Int)) = 48 + (b : Int) := by rw [IntKind.wrap_u8]; omega
      have eqw : IntKind.u64.wrap (q : Int) = (q : Int) := by rw [IntKind.wrap_u64]; omega
      have ks := one_run w1 b
      obtain ⟨S2, hS2⟩ : ∃ S2, str [48 + b] ++ S = S2 := ⟨_, rfl⟩
      have HS2 : Hid (S2 = tx (hb N (k + 1))) := Lib.hid (by rw [← hS2, HS.out, tx_bit b (by omega), hb_succ, HNM.out, hbb])
      have hadd : ∀ W, (Op.stringOp .add (str [48 + b]) S).run Try.prog W = .ok (.string S2) W := fun W => by
        rw [run_string_add_sum W _ _ (by rw [HS.out, str_size, tx_size, hb_len]; simp; omega), hS2]
      have HQ : Hid (N / 2 ^ (k + 1) = q) := Lib.hid (by rw [Nat.pow_succ, ← Nat.div_div_eq_div_mul, HNM.out, hq])
      have hqM : q < 18446744073709551616 := by omega
      have HG1 : Hid (w.grownBy (w1.alloc (.cells #[.int .u8 (48 + (b : Int))] 5)) none) := Lib.hid (only_trans HG.out (World.grownBy_alloc _ _ _))
      clear hbb hq HNM HS hS2
      go_wp2_with fail
      go_roundw
      case rel => exact ⟨k + 1, q, S2, by omega, rfl, hqM, rfl, by go_num, HQ, HS2, HG1⟩
      case measure => simp [iv]; omega
    · obtain rfl : m = k := by omega
      go_wp2_with fail
      go_ret
      exact ⟨by rw [HS.out]; rfl, HG.out⟩
end Go.Proofs.Ytldgldibkibknaa
