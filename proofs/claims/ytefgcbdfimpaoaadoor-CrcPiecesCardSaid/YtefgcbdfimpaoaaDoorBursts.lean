/-
  The law CrcBursts, walked: for any bytes, any place and any turn it returns true and writes nothing that was there.
-/
import Derived.Test.YtefgcbdfimpaoaaDoorMixes
import Derived.Test.YtefgcbdfimpaoaaDoorBurstMath
import Derived.IntWalk
namespace Go.Proofs.YtefgcbdfimpaoaaDoor
open Go.RowKit

theorem and16 (n : Int) : ∃ x : Nat, x < 65536 ∧ bits BinOp.and .i64 n 65535 = (x : Int) := by
  have hx : (BitVec.ofInt 64 n &&& BitVec.ofInt 64 65535).toNat < 65536 := by
    rw [BitVec.toNat_and]
    have : (BitVec.ofInt 64 65535).toNat = 65535 := by decide
    rw [this]
    exact Nat.lt_of_le_of_lt Nat.and_le_right (by decide)
  refine ⟨(BitVec.ofInt 64 n &&& BitVec.ofInt 64 65535).toNat, hx, ?_⟩
  show IntKind.i64.wrap ((BitVec.ofInt 64 n &&& BitVec.ofInt 64 65535).toNat : Int) = _
  exact IntWalk.i64_in _ (by omega)
theorem bit_one (t j : Nat) (h : t < 65536) : bits BinOp.and IntKind.u16 ((t : Int) / 2 ^ j) 1 = ((t / 2 ^ j % 2 : Nat) : Int) := by
  have e : ((t : Int) / 2 ^ j) = ((t / 2 ^ j : Nat) : Int) := by simp
  have h2 : t / 2 ^ j < 65536 := Nat.lt_of_le_of_lt (Nat.div_le_self _ _) h
  have := u16_and_nat (t / 2 ^ j) 1 h2 (by decide)
  rw [show ((1 : Nat) : Int) = 1 from rfl] at this
  rw [e, this, Nat.and_one_is_mod]
theorem bit_yes (t j : Nat) (h : t < 65536) (hb : t / 2 ^ j % 2 = 1) : (bits BinOp.and IntKind.u16 ((t : Int) / 2 ^ j) 1 == 1) = true := by
  rw [bit_one t j h, hb]; rfl
theorem bit_no (t j : Nat) (h : t < 65536) (hb : ¬ t / 2 ^ j % 2 = 1) : (bits BinOp.and IntKind.u16 ((t : Int) / 2 ^ j) 1 == 1) = false := by
  rw [bit_one t j h]
  have : t / 2 ^ j % 2 = 0 := by omega
  rw [this]; rfl
theorem turned {wr : World} {base g N c4 c r j : Nat} {F : List Nat} (h : wr.ownsRow base 5 1 (.slice (some ⟨g, 0, none⟩) N c4) N (F.map bv)) (hc : c < 256) (hr : r < 8) :
    (wr.setCell ⟨g, j, none⟩ (.int .u8 (bits BinOp.xor IntKind.u8 (c : Int) (128 / 2 ^ r)))).ownsRow base 5 1 (.slice (some ⟨g, 0, none⟩) N c4) N ((F.set j (c ^^^ 128 / 2 ^ r)).map bv) := by
  have e : ((128 : Int) / 2 ^ r) = ((128 / 2 ^ r : Nat) : Int) := by simp
  rw [e, u8_xor_nat _ _ hc (Crc.shift_low ⟨r, hr⟩).1, List.map_set]
  exact (h.stored j _).1
theorem rd_of_own {w : World} {base n c : Nat} {e : TypeId} {A : Option Addr} {xs : List Value} (h : w.ownsRow base e 1 (.slice A n c) n xs) : Rd w w.heap.size A n xs := by
  obtain ⟨A', c', hv, hr⟩ := own_shape h
  obtain rfl : A = A' := by injection hv
  exact hr
theorem flips_no {l : List Nat} {p turn k : Nat} (hb : ¬ turn / 2 ^ (15 - k) % 2 = 1) : Crc.flips l p turn (k + 1) = Crc.flips l p turn k := by
  show (if _ then _ else _) = _
  rw [if_neg hb]
theorem flips_yes {l F : List Nat} {p turn k c : Nat} (hb : turn / 2 ^ (15 - k) % 2 = 1) (hF : Crc.flips l p turn k = F) (hc : c = F.getD ((p + k) / 8) 0) : Crc.flips l p turn (k + 1) = F.set ((p + k) / 8) (c ^^^ 128 / 2 ^ ((p + k) % 8)) := by
  show (if _ then _ else _) = _
  rw [if_pos hb, hF, hc]

set_option maxHeartbeats 400000 in
theorem bursts (A : Option Addr) (n cap : Nat) (l : List Nat) (at_ : Int) (turn : Nat) (w : World) (hturn : turn < 65536) (hn : n ≤ cap) (hcap : cap ≤ 9223372036854775807) (hT : Table w) (hlt : ∀ c ∈ l, c < 256)
    (hR : Rd w w.heap.size A n (l.map bv)) :
    Calls Tryd.prog 5 #[.slice A n cap, .int .i64 at_, .int .u16 (turn : Int)] w fun e w' => e = .returned (.bool true) ∧ Below w.heap.size w w' := by
  have HT := Lib.hid hT
  obtain ⟨m, hm, hm2, hmc⟩ := fewer n 500
  obtain ⟨l', Hl'⟩ : ∃ l', Hid (l' = l.take m) := ⟨_, Lib.hid rfl⟩
  have HR := Lib.hid ((hR.take_ hm).of_ (by rw [Hl'.out, List.map_take]) : Rd w w.heap.size A m (l'.map bv))
  have Hlt : Hid (∀ c ∈ l', c < 256) := Lib.hid (fun c hc => hlt c (List.mem_of_mem_take (Hl'.out ▸ hc)))
  have HL : Hid (l'.length = m) := Lib.hid (by simpa using HR.out.1)
  obtain ⟨x, hx, hat⟩ := and16 at_
  clear hT hR hlt
  rcases hmc with ⟨rfl, h⟩ | ⟨rfl, h⟩
  all_goals
    go_enter Tryd.func5, Tryd.ntmps5
    go_wp2_with fail
    refine (shown_calls _ HT.out).mono ?_
    rintro e w1 ⟨rfl, hB1⟩
    have HB1 := Lib.hid hB1
    clear hB1
    go_wp2_with (first
      | (at_builtin; refine wpList_append_rd _ rfl (.tmp 12) (.tmp 17) 22 rfl w1.heap.size 5 (.int .u8 0) 1 Tryd.underlying22 Tryd.info5 rfl _ 0 [] rfl (World.ownsRow_lit w1 #[] 0 (Nat.le_refl _) (by decide) rfl) w.heap.size A _ cap (l'.map bv) rfl ((HR.out.below HB1.out).alloc HB1.out.size _) (bv_one _) _ (Nat.zero_add _) _ rfl (by unfold maxLen; omega) (by omega) (by simp) ?_; intro A' c' w2 hown hgrow hrd; have HB2 := Lib.hid ((HB1.out.alloc HB1.out.size _).grown hgrow (Nat.le_trans HB1.out.size (by simp)) (fun k e => by cases e; exact HB1.out.size)); have HO := Lib.hid hown; have HZ := Lib.hid (show w1.heap.size ≤ w2.heap.size from Nat.le_trans (by simp) hgrow.size); clear hown hgrow hrd)
      | (at_builtin; refine wpList_append_rd _ rfl (.tmp 18) (.tmp 19) 22 rfl w1.heap.size 5 (.int .u8 0) 1 Tryd.underlying22 Tryd.info5 rfl _ _ (l'.map bv) rfl (HO.out.alloc _) (w2.heap.size + 1) (some ⟨w2.heap.size, 0, none⟩) 3 3 ([1, 2, 3].map bv) rfl (Rd.lit w2 #[.int .u8 1, .int .u8 2, .int .u8 3] 5 (0, 0)) (bv_one _) _ rfl ((l' ++ [1, 2, 3]).map bv) (by simp) (by unfold maxLen; omega) (by omega) (by have := HZ.out; simp; omega) ?_; intro A3 c3 w3 hown hgrow hrd; have HB3 := Lib.hid ((HB2.out.alloc HB2.out.size _).grown hgrow (Nat.le_trans HB2.out.size (by simp)) (fun k e => Nat.le_trans HB1.out.size (HO.out.lt k e).1)); have HO3 := Lib.hid hrd; clear hown hgrow hrd)
      | (at_builtin; refine wpList_append_rd _ rfl (.tmp 21) (.tmp 22) 22 rfl w3.heap.size 5 (.int .u8 0) 1 Tryd.underlying22 Tryd.info5 rfl _ 0 [] rfl (World.ownsRow_lit w3 #[] 0 (Nat.le_refl _) (by decide) rfl) w3.heap.size A3 _ c3 ((l' ++ [1, 2, 3]).map bv) rfl (HO3.out.alloc (Nat.le_refl _) _) (bv_one _) _ (Nat.zero_add _) _ rfl (by unfold maxLen; omega) (by omega) (by simp) ?_; intro A4 c4 w4 hown hgrow hrd; have HB4 := Lib.hid (((Below.refl w3.heap.size w3).alloc (Nat.le_refl _) _).grown hgrow (by simp) (fun k e => by cases e; exact Nat.le_refl _)); have HO4 := Lib.hid hown; clear hown hgrow hrd))
    obtain ⟨g, cap4, hv, _, _⟩ := HO4.out.form (by omega)
    obtain rfl : A4 = some ⟨g, 0, none⟩ := by injection hv
    obtain ⟨l4, Hl4⟩ : ∃ l4, Hid (l4 = l' ++ [1, 2, 3]) := ⟨_, Lib.hid rfl⟩
    rw [← Hl4.out] at HO3 HO4
    have Hlt4 : Hid (∀ c ∈ l4, c < 256) := Lib.hid (by
      rw [Hl4.out]
      intro c hc
      simp at hc
      rcases hc with hc | rfl | rfl | rfl
      · exact Hlt.out c hc
      · decide
      · decide
      · decide)
    have Hlen : Hid (l4.length = l'.length + 3) := Lib.hid (by rw [Hl4.out]; simp)
    clear hv
    first
      | (obtain ⟨p, hp, hp2⟩ : ∃ p : Nat, (x : Int) % 4009 = (p : Int) ∧ p + 16 ≤ 4024 := ⟨x % 4009, by omega, by omega⟩; rw [hp])
      | (obtain ⟨p, hp, hp2⟩ : ∃ p : Nat, (x : Int) % (8 * ((m : Int) + 3) - 15) = (p : Int) ∧ p + 16 ≤ 8 * (m + 3) := ⟨((x : Int) % (8 * ((m : Int) + 3) - 15)).toNat, by have := Int.emod_nonneg (x : Int) (show 8 * ((m : Int) + 3) - 15 ≠ 0 by omega); omega, by have := Int.emod_nonneg (x : Int) (show 8 * ((m : Int) + 3) - 15 ≠ 0 by omega); have := Int.emod_lt_of_pos (x : Int) (show 0 < 8 * ((m : Int) + 3) - 15 by omega); omega⟩; rw [hp])
    have Hp := Lib.hid hp
    have hp3 : Hid (p + 16 ≤ 8 * l4.length) := Lib.hid (by rw [Hlen.out, HL.out]; omega)
    clear hp
    go_loopw [9, 10] (fun i _ wr => ∃ k : Nat, k ≤ 16 ∧ i = .int .i64 k ∧ Hid (wr.ownsRow w3.heap.size 5 1 (.slice (some ⟨g, 0, none⟩) _ c4) _ ((Crc.flips l4 p turn k).map bv)) ∧ Hid (Below w3.heap.size w3 wr)) (fun i _ _ => 16 - (intOf i).toNat)
    case atStart => exact ⟨0, by omega, rfl, HO4, HB4⟩
    case round =>
      obtain ⟨k, hk, rfl, HOr, HBr⟩ := hrel
      by_cases hlt : k < 16
      · obtain ⟨F, HF⟩ : ∃ F, Hid (Crc.flips l4 p turn k = F) := ⟨_, Lib.hid rfl⟩
        have hFl : F.length = l4.length := by rw [← HF.out]; exact Crc.flips_length _ _ _ _
        obtain ⟨c, hc1, hc256, Hc⟩ : ∃ c : Nat, wr.cell? ⟨g, (p + k) / 8, none⟩ = some (.int .u8 (c : Int)) ∧ c < 256 ∧ Hid (c = F.getD ((p + k) / 8) 0) := by
          have hj : (p + k) / 8 < F.length := by have := hp3.out; omega
          refine ⟨_, ?_, getD_lt (by rw [← HF.out]; exact (Crc.flips_more 65535 l4 p turn (by decide) Hlt4.out hp3.out k (by omega)).1) hj, Lib.hid rfl⟩
          rw [HOr.out.cellAt _ (by have := HL.out; have := Hlen.out; omega), HF.out, List.getElem?_map, List.getElem?_eq_getElem hj, List.getD_eq_getElem?_getD, List.getElem?_eq_getElem hj]
          rfl
        have hc2 : wr.frozen? ⟨g, (p + k) / 8, none⟩ = false := HOr.out.frozenAt _
        clear hFl
        by_cases hb : turn / 2 ^ (15 - k) % 2 = 1
        · have hbb := bit_yes turn (15 - k) hturn hb
          have Hb := Lib.hid hb
          clear hb
          go_wp2
          go_roundw
          case rel =>
            refine ⟨k + 1, by omega, by go_num, ?_, ?_⟩
            · exact Lib.hid (by rw [flips_yes Hb.out HF.out Hc.out]; exact turned (by rw [← HF.out]; exact HOr.out) hc256 (Nat.mod_lt _ (by decide)))
            · exact Lib.hid (HBr.out.setCell (p := ⟨g, _, none⟩) ‹_› _)
          case measure => simp [intOf]; omega
        · have hbb := bit_no turn (15 - k) hturn hb
          have Hb := Lib.hid hb
          clear hb
          go_wp2
          go_roundw
          case rel => exact ⟨k + 1, by omega, by go_num, Lib.hid (by rw [flips_no Hb.out]; exact HOr.out), HBr⟩
          case measure => simp [intOf]; omega
      · obtain rfl : k = 16 := by omega
        obtain ⟨q1, q2⟩ := Crc.bursts 65535 l4 p turn (by decide) Hlt4.out hp3.out hturn
        have Q1 := Lib.hid q1
        have HBw := Lib.hid (HB3.out.trans (HBr.out.mono HB3.out.size))
        have HTr := Lib.hid (HT.out.below HBw.out HT.out.1)
        have HS1 := Lib.hid (sum_calls _ _ c3 _ l4 wr (by omega) HTr.out Hlt4.out (HO3.out.below HBr.out))
        have HS2 := Lib.hid (sum_calls _ _ c4 _ (Crc.flips l4 p turn 16) wr (by omega) HTr.out Q1.out (rd_of_own HOr.out))
        generalize Crc.more 65535 l4 = S1 at q2 HS1
        generalize Crc.more 65535 (Crc.flips l4 p turn 16) = S2 at q2 HS2
        have Q2 := Lib.hid q2
        clear q1 q2
        by_cases h0 : turn = 0
        · have e1 : S1 = S2 := Q2.out.2 h0
          clear Q2 HOr Q1
          subst h0
          subst e1
          go_wp2_with fail
          refine HS1.out.mono ?_
          rintro e w6 ⟨rfl, rfl⟩
          go_wp2_with fail
          refine HS2.out.mono ?_
          rintro e w6 ⟨rfl, rfl⟩
          go_wp2
          go_ret
          exact ⟨rfl, HBw.out⟩
        · have d1 : ((S1 : Int) == (S2 : Int)) = false := beq_eq_false_iff_ne.2 (by intro h; exact h0 (Q2.out.1 (by omega)))
          have d2 : ((turn : Int) == 0) = false := beq_eq_false_iff_ne.2 (by omega)
          clear h0
          go_wp2_with fail
          refine HS1.out.mono ?_
          rintro e w6 ⟨rfl, rfl⟩
          go_wp2_with fail
          refine HS2.out.mono ?_
          rintro e w6 ⟨rfl, rfl⟩
          go_wp2
          go_ret
          exact ⟨rfl, HBw.out⟩
end Go.Proofs.YtefgcbdfimpaoaaDoor
