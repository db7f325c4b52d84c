/-
  The law CrcPieces, walked: for any pieces it returns true and writes nothing that was there.
-/
import Derived.Test.YtefgcbdfimpaoaaDoorBursts
namespace Go.Proofs.YtefgcbdfimpaoaaDoor
open Go.RowKit

/-- The slice (A, n) of slices of bytes reads as f, piece for piece, all below block B. -/
def Pieces (w : World) (B : Nat) (A : Option Addr) (n : Nat) (f : Nat → List Nat) : Prop :=
  0 < n → ∃ b off, A = some ⟨b, off, none⟩ ∧ b < B ∧ ∀ i, i < n → ∃ Ai ki ci, w.cell? ⟨b, off + i, none⟩ = some (.slice Ai ki ci) ∧ ki ≤ ci ∧ ci ≤ 9223372036854775807 ∧ Rd w B Ai ki ((f i).map bv) ∧ ∀ c ∈ f i, c < 256
/-- All pieces, each cut to two hundred bytes. -/
def joined (f : Nat → List Nat) : Nat → List Nat
  | 0 => []
  | k + 1 => joined f k ++ (f k).take 200
theorem joined_len (f : Nat → List Nat) : ∀ k, (joined f k).length ≤ 200 * k
  | 0 => by simp [joined]
  | k + 1 => by
    have := joined_len f k
    simp [joined]
    omega

theorem tail_calls (S : Nat) (w : World) (hS : S < 65536) (hT : Table w) :
    Calls Tryd.prog 11 #[.int .u16 (S : Int), .slice (some ⟨w.heap.size, 0, none⟩) 2 2] (w.alloc (.cells #[.int .u8 ((S : Int) / 256), .int .u8 ((S : Int) % 256)] 5)) fun e w' => e = .returned (.int .u16 0) ∧ (w.alloc (.cells #[.int .u8 ((S : Int) / 256), .int .u8 ((S : Int) % 256)] 5)) = w' := by
  have h := more_calls S (some ⟨w.heap.size, 0, none⟩) 2 2 (w.heap.size + 1) [S / 256, S % 256] (w.alloc (.cells #[.int .u8 ((S : Int) / 256), .int .u8 ((S : Int) % 256)] 5)) hS (by decide) (hT.alloc _) (by
    intro c hc
    simp at hc
    rcases hc with rfl | rfl <;> omega) ((Rd.lit w _ 5 (0, 0)).of_ (by
    simp [bv]))
  rw [Crc.more_own hS] at h
  exact h
set_option maxHeartbeats 800000 in
theorem pieces (A : Option Addr) (n cap : Nat) (f : Nat → List Nat) (w : World) (hn : n ≤ 9223372036854775807) (hT : Table w) (hP : Pieces w w.heap.size A n f) :
    Calls Tryd.prog 4 #[.slice A n cap] w fun e w' => e = .returned (.bool true) ∧ Below w.heap.size w w' := by
  have HT := Lib.hid hT
  have HP := Lib.hid hP
  clear hT hP
  go_enter Tryd.func4, Tryd.ntmps4
  go_wp2_with fail
  refine (shown_calls _ HT.out).mono ?_
  rintro e w1 ⟨rfl, hB1⟩
  have HB1 := Lib.hid hB1
  clear hB1
  go_wp2_with fail
  refine (sum_calls none 0 0 0 [] _ (by decide) (HT.out.below HB1.out HT.out.1) (by simp) (Rd.nil_ _ _ _)).mono ?_
  rw [sum_nil]
  rintro e w2 ⟨rfl, rfl⟩
  have HO := Lib.hid (World.ownsRow_lit (base := w1.heap.size) (e := 5) (size := 1) w1 #[] 0 (Nat.le_refl _) (by decide) rfl)
  have HB2 := Lib.hid (HB1.out.alloc HB1.out.size (.cells #[] 5))
  have HZ := Lib.hid HB1.out.size
  have HZ2 := Lib.hid (show w1.heap.size ≤ (w1.alloc (.cells #[] 5)).heap.size by simp)
  go_wp2_with fail
  go_loopw [4, 5, 6, 7] (fun s v i _ wr => ∃ (k S N c : Nat) (Av : Option Addr), k ≤ n ∧ k ≤ 30 ∧ i = .int .i64 k ∧ s = .int .u16 (S : Int) ∧ v = .slice Av N c ∧ S < 65536 ∧ N ≤ 200 * k ∧
      Hid (S = Crc.more 65535 (joined f k)) ∧ Hid (∀ c ∈ joined f k, c < 256) ∧ Hid (wr.ownsRow w1.heap.size 5 1 (.slice Av N c) N ((joined f k).map bv)) ∧ Hid (Below w.heap.size w wr) ∧ Hid (w1.heap.size ≤ wr.heap.size)) (fun _ _ i _ _ => n - (intOf i).toNat)
  case atStart => exact ⟨0, 65535, 0, 0, _, by omega, by omega, rfl, rfl, rfl, by omega, by omega, Lib.hid rfl, Lib.hid (by intro c hc; cases hc), HO, HB2, HZ2⟩
  case round =>
    obtain ⟨k, S, N, c, Av, hk, hk30, rfl, rfl, rfl, hS, hN, HS, Hlt, HOr, HBr, HZr⟩ := hrel
    by_cases hlt : k < n ∧ k < 30
    · obtain ⟨hlt, hlt30⟩ := hlt
      obtain ⟨b, off, rfl, hb, hc⟩ := HP.out (by omega)
      obtain ⟨Ai, ki, ci, hcell, hki, hci, hRi, hli⟩ := hc k hlt
      obtain ⟨m, hm, hm2, hmc⟩ := fewer ki 200
      have HRi := Lib.hid (((hRi.below HBr.out).take_ hm).of_ (show _ = ((f k).take 200).map bv from by
        have hl : (f k).length = ki := by simpa using hRi.1
        rw [← List.map_take]
        rcases hmc with ⟨rfl, _⟩ | ⟨rfl, h⟩
        · rfl
        · rw [List.take_of_length_le (by omega), List.take_of_length_le (by omega)]))
      have Hli : Hid (∀ c ∈ (f k).take 200, c < 256) := Lib.hid (fun c hc => hli c (List.mem_of_mem_take hc))
      have hcellr := (HBr.out.cell (p := ⟨b, off + k, none⟩) hb).trans hcell
      have HTr := Lib.hid (HT.out.below HBr.out HT.out.1)
      clear hc hcell hRi hli
      rcases hmc with ⟨rfl, h⟩ | ⟨rfl, h⟩
      all_goals
        go_wp2_with fail
        go_region
        go_wp2_with fail
        refine (more_calls S Ai _ ci _ ((f k).take 200) wr.drew hS (by omega) HTr.out Hli.out HRi.out).mono ?_
        rintro e wx ⟨rfl, rfl⟩
        go_wp2_with (first
          | (at_builtin; refine wpList_append_rd _ rfl (.tmp 35) (.tmp 36) 22 rfl w1.heap.size 5 (.int .u8 0) 1 Tryd.underlying22 Tryd.info5 rfl _ _ ((joined f k).map bv) rfl HOr.out w.heap.size Ai _ ci (((f k).take 200).map bv) rfl HRi.out (bv_one _) _ rfl ((joined f (k + 1)).map bv) (by rw [joined, List.map_append]) (by unfold maxLen; omega) (by omega) HZr.out ?_; intro A' c' w2 hown hgrow hrd; have HB' := Lib.hid (HBr.out.drew.grown hgrow HBr.out.size (fun q e => Nat.le_trans HZ.out (HOr.out.lt q e).1)); have HO' := Lib.hid hown; have HZ' := Lib.hid (Nat.le_trans HZr.out hgrow.size); clear hown hgrow hrd))
        go_roundw
        case rel =>
          refine ⟨k + 1, Crc.more S ((f k).take 200), _, c', A', by omega, by omega, by go_num, rfl, rfl, Crc.more_lt hS Hli.out, by omega, ?_, ?_, HO', HB', HZ'⟩
          · exact Lib.hid (by rw [joined, Crc.more_append, ← HS.out])
          · exact Lib.hid (by
              intro c hc
              rw [joined, List.mem_append] at hc
              rcases hc with hc | hc
              · exact Hlt.out c hc
              · exact Hli.out c hc)
        case measure => simp [intOf]; omega
    · have HTr := Lib.hid (HT.out.below HBr.out HT.out.1)
      have HS1 := Lib.hid (sum_calls _ _ c _ (joined f k) wr (by omega) HTr.out Hlt.out (rd_of_own HOr.out))
      rw [← HS.out] at HS1
      have HW := Lib.hid (tail_calls S wr hS HTr.out)
      by_cases hkn : k < n
      · obtain rfl : k = 30 := by omega
        clear hlt
        go_wp2_with fail
        refine HS1.out.mono ?_
        rintro e wx ⟨rfl, rfl⟩
        go_wp2_with fail
        refine HW.out.mono ?_
        rintro e wx ⟨rfl, rfl⟩
        go_wp2
        go_ret
        exact ⟨rfl, HBr.out.alloc HBr.out.size _⟩
      · clear hlt
        go_wp2_with fail
        refine HS1.out.mono ?_
        rintro e wx ⟨rfl, rfl⟩
        go_wp2_with fail
        refine HW.out.mono ?_
        rintro e wx ⟨rfl, rfl⟩
        go_wp2
        go_ret
        exact ⟨rfl, HBr.out.alloc HBr.out.size _⟩
end Go.Proofs.YtefgcbdfimpaoaaDoor
