import Derived.Test.YtldgldibkibknaaTx2
namespace Go.Proofs.Ytldgldibkibknaa
open Go.RowKit

theorem str_extract (l : List Nat) (a b : Nat) : (str l).extract a b = str ((l.drop a).take (b - a)) := by
  apply ByteArray.ext
  simp [str, ByteArray.data_extract, List.extract_eq_take_drop, List.map_drop, List.map_take]
theorem tx_extract (bs : List Bool) (a b : Nat) : (tx bs).extract a b = tx ((bs.drop a).take (b - a)) := by
  unfold tx; rw [str_extract, List.map_take, List.map_drop]
theorem bi_pad (bs : List Bool) (k i : Nat) : bi (bs ++ List.replicate k false) i = bi bs i := by
  unfold bi
  congr 2
  rw [List.getD_eq_getElem?_getD, List.getD_eq_getElem?_getD, List.getElem?_append]
  split
  · rfl
  · rw [List.getElem?_replicate, List.getElem?_eq_none (by omega)]
    split <;> rfl
theorem by8_pad (bs : List Bool) (k i : Nat) : by8 (bs ++ List.replicate k false) i = by8 bs i := by
  unfold by8; simp only [bi_pad]
theorem pk_pad (bs : List Bool) (k n : Nat) : pk (bs ++ List.replicate k false) n = pk bs n := by
  unfold pk; congr 1; funext i; exact by8_pad bs k i
theorem bi_drop (bs : List Bool) (a i : Nat) : bi (bs.drop a) i = bi bs (a + i) := by
  unfold bi
  congr 2
  rw [List.getD_eq_getElem?_getD, List.getD_eq_getElem?_getD, List.getElem?_drop]
theorem bi_take (bs : List Bool) (n i : Nat) (h : i < n) : bi (bs.take n) i = bi bs i := by
  unfold bi
  congr 2
  rw [List.getD_eq_getElem?_getD, List.getD_eq_getElem?_getD, List.getElem?_take_of_lt h]
theorem bnum_cut (bs : List Bool) (a n m : Nat) (h : n ≤ m) : bnum ((bs.drop a).take m) 0 n = bnum bs a n := by
  induction n with
  | zero => rfl
  | succ n ih => simp only [bnum]; rw [ih (by omega), bi_take _ _ _ (by omega), bi_drop, Nat.zero_add]
theorem byte_run (W : World) (b : Nat) : (Go.convert 27 9 (.slice (some ⟨W.heap.size, 0, none⟩) 1 1)).run Try.prog (W.alloc (.cells #[.int .u8 (b : Int)] 5)) = .ok (.string (str [b])) (W.alloc (.cells #[.int .u8 (b : Int)] 5)) :=
  run_string_rd _ 27 5 9 Try.underlying27 Try.underlying5 Try.underlying9 1 ((Rd.lit W #[.int .u8 (b : Int)] 5 (0, 0)).of_ (by simp [bv]))
theorem pk_succ (bs : List Bool) (n : Nat) : pk bs (n + 1) = pk bs n ++ [by8 bs n] := by
  unfold pk; rw [List.range_succ, List.map_append]; rfl
def sz (v : Value) : Nat := match v with
  | .string s => s.size
  | _ => 0

set_option maxRecDepth 100000 in
set_option maxHeartbeats 1500000 in
theorem refbytes_calls (bs : List Bool) (S : ByteArray) (hS : S = tx bs) (hl : bs.length ≤ 1000000) (w : World) :
    Calls Try.prog 14 #[.string S] w fun e w' => e = .returned (.string (str (pk bs ((bs.length + 7) / 8)))) ∧ w.grownBy w' none := by
  obtain ⟨m, hm⟩ : ∃ m, bs.length = m := ⟨_, rfl⟩
  obtain ⟨n, hn⟩ : ∃ n, (m + 7) / 8 = n := ⟨_, rfl⟩
  have HLEN := Lib.hid hm
  rw [hm] at hl ⊢
  rw [hn]
  have HN := Lib.hid hn
  have HS := Lib.hid hS
  clear hm hn hS
  go_enter Try.func14, Try.ntmps14
  go_wp2_with fail
  go_loopw [0] (fun sv wr => ∃ (k : Nat) (T : ByteArray), m + k ≤ 8 * n ∧ sv = .string T ∧ Hid (T = tx (bs ++ List.replicate k false)) ∧ wr = w) (fun sv _ => 8 * n - sz sv)
  case atStart => exact ⟨0, S, by have := HN.out; omega, rfl, Lib.hid (by rw [HS.out]; simp), rfl⟩
  case round =>
    obtain ⟨k, T, hk, rfl, HT, rfl⟩ := hrel
    have hsz : T.size = m + k := by rw [HT.out, tx_size, List.length_append, HLEN.out, List.length_replicate]
    have hnn := HN.out
    obtain ⟨r, hr⟩ : ∃ r, (m + k) % 8 = r := ⟨_, rfl⟩
    have hr1 : ((m : Int) + (k : Int)).tmod 8 = (r : Int) := by rw [Int.tmod_eq_emod_of_nonneg (by omega)]; omega
    by_cases hlt : r = 0
    · subst hlt
      have hmk : m + k = 8 * n := by omega
      obtain ⟨bb, hbb⟩ : ∃ bb, bs ++ List.replicate k false = bb := ⟨_, rfl⟩
      have HBL : Hid (bb.length = 8 * n) := Lib.hid (by rw [← hbb, List.length_append, HLEN.out, List.length_replicate]; exact hmk)
      have HPK : Hid (∀ j, pk bb j = pk bs j) := Lib.hid (fun j => by rw [← hbb]; exact pk_pad bs k j)
      rw [hbb] at HT
      clear hbb
      go_wp2_with fail
      obtain ⟨wo, hwo⟩ : ∃ wo : World, wo = wr := ⟨_, rfl⟩
      rw [← hwo]
      go_loopw [3, 4] (fun ov ivv wr => ∃ (j i : Nat) (O : ByteArray), j ≤ n ∧ ov = .string O ∧ ivv = .int .i64 i ∧ Hid (8 * j = i) ∧ Hid (O = str (pk bb j)) ∧ Hid (wo.grownBy wr none)) (fun _ i _ => 8 * n - (iv i).toNat)
      case atStart => exact ⟨0, 0, _, by omega, rfl, rfl, Lib.hid rfl, Lib.hid rfl, Lib.hid (World.grownBy.refl wo none)⟩
      case round =>
        obtain ⟨j, i, O, hj, rfl, rfl, HI, HO, HG⟩ := hrel
        have hi := HI.out
        have hsz' : T.size = 8 * n := by rw [hsz, hmk]
        clear hsz hmk hk hr1
        by_cases hlt : j < n
        · obtain ⟨x, hx⟩ : ∃ x, by8 bb j = x := ⟨_, rfl⟩
          have hx8 : x < 256 := by rw [← hx]; exact by8_lt bb j
          have e1 : IntKind.i64.wrap ((i : Int) + 8) = (i : Int) + 8 := IntWalk.i64_in _ (by omega)
          have e2 : IntKind.u8.wrap (x : Int) = (x : Int) := by rw [IntKind.wrap_u8]; omega
          have ks := byte_run wr x
          obtain ⟨C, hC⟩ : ∃ C, T.extract i (i + 8) = C := ⟨_, rfl⟩
          have HC : Hid (C = tx ((bb.drop i).take 8)) := Lib.hid (by rw [← hC, HT.out, tx_extract, Nat.add_sub_cancel_left])
          have HX : Hid (bnum ((bb.drop i).take 8) 0 8 = x) := Lib.hid (by rw [bnum_cut _ _ _ _ (Nat.le_refl 8), ← hi, ← by8_bnum, hx])
          have HCL : Hid (((bb.drop i).take 8).length = 8) := Lib.hid (by rw [List.length_take, List.length_drop, HBL.out]; omega)
          obtain ⟨O2, hO2⟩ : ∃ O2, O ++ str [x] = O2 := ⟨_, rfl⟩
          have HO2 : Hid (O2 = str (pk bb (j + 1))) := Lib.hid (by rw [← hO2, HO.out, str_app, pk_succ, hx])
          have hadd : ∀ W, (Op.stringOp .add O (str [x])).run Try.prog W = .ok (.string O2) W := fun W => by
            rw [run_string_add_sum W _ _ (by rw [HO.out, str_size, str_size, pk_len]; simp; omega), hO2]
          have hs1 : (Instr.slice 9 (.string T) (some (.int .i64 (i : Int))) (some (.int .i64 ((i : Int) + 8))) none).run Try.prog wr = .ok (.string C) wr := by
            rw [run_slice_string_if (P := Try.prog) wr 9 T .i64 .i64 i (i + 8) Try.underlying9, if_pos (by rw [hsz']; omega), if_pos (by omega), ← hC]
            rfl
          have HG2 : Hid (wo.grownBy (wr.alloc (.cells #[.int .u8 (x : Int)] 5)) none) := Lib.hid (only_trans HG.out (World.grownBy_alloc _ _ _))
          have hI2 : Hid (8 * (j + 1) = i + 8) := Lib.hid (by omega)
          have hlt2 : (i : Int) < 8 * (n : Int) := by omega
          have hj1 : j + 1 ≤ n := by omega
          clear hx hC hO2 hi
          go_wp2_with fail
          refine (number_calls _ C HC.out (by rw [HCL.out]; omega) wr).mono ?_
          rintro e w1 ⟨rfl, rfl⟩
          rw [HCL.out, HX.out]
          go_wp2_with fail
          go_roundw
          case rel => exact ⟨j + 1, i + 8, O2, hj1, rfl, by go_num, hI2, HO2, HG2⟩
          case measure => simp [iv]; omega
        · obtain rfl : j = n := by omega
          go_wp2_with fail
          go_ret
          exact ⟨by rw [HO.out, HPK.out]; rfl, hwo ▸ HG.out⟩
    · have hk1 : m + (k + 1) ≤ 8 * n := by omega
      have hadd : ∀ W, (Op.stringOp .add T ⟨#[48]⟩).run Try.prog W = .ok (.string (tx (bs ++ List.replicate (k + 1) false))) W := fun W => by
        rw [run_string_add_sum W _ _ (by rw [hsz]; simp [ByteArray.size]; omega)]
        congr 2
        rw [HT.out, show (⟨#[48]⟩ : ByteArray) = tx [false] from rfl, tx_app, List.append_assoc]
        congr 2
        rw [List.replicate_succ']
      go_wp2_with fail
      go_roundw
      case rel => exact ⟨k + 1, _, hk1, rfl, Lib.hid rfl, trivial⟩
      case measure => simp [sz, tx_size, HLEN.out]; omega
end Go.Proofs.Ytldgldibkibknaa
