import Derived.Test.YtldgldibkibknaaTx4
namespace Go.Proofs.Ytldgldibkibknaa
open Go.RowKit

set_option maxRecDepth 100000 in
set_option maxHeartbeats 1500000 in
theorem refof_calls (l : List Nat) (S : ByteArray) (hS : S = str l) (h8 : ∀ x ∈ l, x < 256) (hl : l.length ≤ 100000) (w : World) :
    Calls Try.prog 19 #[.string S] w fun e w' => e = .returned (.string (tx (flat l))) ∧ w.grownBy w' none := by
  have HB : Hid (∀ (k : Nat) (h : k < l.length), l[k] < 256 ∧ ∀ W : World, (Instr.index 9 (.string S) (.int .i64 (k : Int))).run Try.prog W = .ok (.int .u8 ((l[k] : Nat) : Int)) W) := Lib.hid (fun k h => ⟨h8 _ (List.getElem_mem h), idx_run l S hS k h (h8 _ (List.getElem_mem h))⟩)
  have HT := Lib.hid (fun N (h : N < 18446744073709551616) => text_calls N 8 h)
  obtain ⟨m, hm⟩ : ∃ m, l.length = m := ⟨_, rfl⟩
  have hsz : S.size = m := by rw [hS, str_size, hm]
  have HLEN := Lib.hid hm
  rw [hm] at hl
  clear hm hS h8
  go_enter Try.func19, Try.ntmps19
  go_wp2_with fail
  go_loopw [3, 4] (fun sv ivv wr => ∃ (k : Nat) (T : ByteArray), k ≤ m ∧ sv = .string T ∧ ivv = .int .i64 k ∧ Hid (T = tx (flat (l.take k))) ∧ Hid (w.grownBy wr none)) (fun _ i _ => m - (iv i).toNat)
  case atStart => exact ⟨0, _, by omega, rfl, rfl, Lib.hid rfl, Lib.hid (World.grownBy.refl w none)⟩
  case round =>
    obtain ⟨k, T, hk, rfl, rfl, HS, HG⟩ := hrel
    by_cases hlt : k < m
    · have hkl : k < l.length := by rw [HLEN.out]; exact hlt
      obtain ⟨hx8, hix⟩ := HB.out k hkl
      have HX : Hid (flat (l.take (k + 1)) = flat (l.take k) ++ hb l[k] 8) := Lib.hid (flat_take l k hkl)
      obtain ⟨x, hx⟩ : ∃ x, l[k] = x := ⟨_, rfl⟩
      rw [hx] at hx8 hix HX
      have ex : IntKind.u64.wrap (x : Int) = (x : Int) := by rw [IntKind.wrap_u64]; omega
      obtain ⟨T2, hT2⟩ : ∃ T2, T ++ tx (hb x 8) = T2 := ⟨_, rfl⟩
      have HT2 : Hid (T2 = tx (flat (l.take (k + 1)))) := Lib.hid (by rw [← hT2, HS.out, tx_app, HX.out])
      have hadd : ∀ W, (Op.stringOp .add T (tx (hb x 8))).run Try.prog W = .ok (.string T2) W := fun W => by
        rw [run_string_add_sum W _ _ (by rw [HS.out, tx_size, tx_size, hb_len, flat_len, List.length_take]; omega), hT2]
      clear hx hT2
      go_wp2_with fail
      refine (HT.out x (by omega) wr).mono ?_
      rintro e w1 ⟨rfl, h1⟩
      have HG1 := Lib.hid (only_trans HG.out h1)
      clear h1
      rw [show inn 8 = 8 from rfl]
      go_wp2_with fail
      go_roundw
      case rel => exact ⟨k + 1, T2, by omega, rfl, by go_num, HT2, HG1⟩
      case measure => simp [iv]; omega
    · obtain rfl : m = k := by omega
      have HF : Hid (T = tx (flat l)) := Lib.hid (by rw [HS.out, List.take_of_length_le (by rw [HLEN.out]; omega)])
      go_wp2_with fail
      go_ret
      exact ⟨by rw [HF.out]; rfl, HG.out⟩
end Go.Proofs.Ytldgldibkibknaa
