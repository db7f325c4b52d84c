/-
  The law CrcNoughts, walked: for any bytes it returns true and writes nothing that was there.
-/
import Derived.Test.YtefgcbdfimpaoaaDoorAid
namespace Go.Proofs.YtefgcbdfimpaoaaDoor
open Go.RowKit
theorem nought_facts (l : List Nat) (hlt : ∀ c ∈ l, c < 256) (S Sb Sa : Nat) (hS : Crc.more 65535 l = S) (hb : Crc.more 65535 (l ++ [0]) = Sb) (ha : Crc.more 65535 (0 :: l) = Sa) :
    Sa ≠ S ∧ ((Sb = 0 ∧ S = 0) ∨ (Sb = 61471 ∧ S = 61471) ∨ (Sb ≠ S ∧ S ≠ 0 ∧ S ≠ 61471)) := by
  have hlt16 : S < 65536 := by rw [← hS]; exact Crc.more_lt (by decide) hlt
  refine ⟨?_, ?_⟩
  · rw [← hS, ← ha, Crc.more_cons]
    intro h
    exact Crc.nought_ahead ((Crc.more_inj l _ _ (Crc.step_lt (by decide) (by decide)) (by decide) hlt).1 h)
  · rw [Crc.more_snoc, hS] at hb
    have h := Crc.nought_behind hlt16
    rw [hb] at h
    omega

set_option maxHeartbeats 400000 in
theorem noughts (A : Option Addr) (n cap : Nat) (l : List Nat) (w : World) (hn : n ≤ cap) (hcap : cap ≤ 9223372036854775807) (hT : Table w) (hlt : ∀ c ∈ l, c < 256)
    (hR : Rd w w.heap.size A n (l.map bv)) :
    Calls Tryd.prog 7 #[.slice A n cap] w fun e w' => e = .returned (.bool true) ∧ Below w.heap.size w w' := by
  have HT := Lib.hid hT
  obtain ⟨m, hm, hm2, hmc⟩ := fewer n 500
  obtain ⟨l', Hl'⟩ : ∃ l', Hid (l' = l.take m) := ⟨_, Lib.hid rfl⟩
  have HR := Lib.hid ((hR.take_ hm).of_ (by rw [Hl'.out, List.map_take]) : Rd w w.heap.size A m (l'.map bv))
  have Hlt : Hid (∀ c ∈ l', c < 256) := Lib.hid (fun c hc => hlt c (List.mem_of_mem_take (Hl'.out ▸ hc)))
  have HL : Hid (l'.length = m) := Lib.hid (by simpa using HR.out.1)
  clear hT hR hlt
  obtain ⟨S, HS⟩ : ∃ S, Hid (Crc.more 65535 l' = S) := ⟨_, Lib.hid rfl⟩
  obtain ⟨Sb, HSb⟩ : ∃ S, Hid (Crc.more 65535 (l' ++ [0]) = S) := ⟨_, Lib.hid rfl⟩
  obtain ⟨Sa, HSa⟩ : ∃ S, Hid (Crc.more 65535 (0 :: l') = S) := ⟨_, Lib.hid rfl⟩
  rcases hmc with ⟨rfl, h⟩ | ⟨rfl, h⟩
  all_goals
    go_enter Tryd.func7, Tryd.ntmps7
    go_wp2_with fail
    refine (shown_calls _ HT.out).mono ?_
    rintro e w1 ⟨rfl, hB1⟩
    have HB1 := Lib.hid hB1
    clear hB1
    go_wp2_with fail
    refine (sum_calls _ _ _ _ l' _ (by omega) (HT.out.below HB1.out HT.out.1) Hlt.out (HR.out.below HB1.out)).mono ?_
    rw [HS.out]
    rintro e w3 ⟨rfl, rfl⟩
    go_wp2_with (first
      | (at_builtin; refine wpList_append_rd _ rfl (.tmp 15) (.tmp 16) 22 rfl w1.heap.size 5 (.int .u8 0) 1 Tryd.underlying22 Tryd.info5 rfl _ 0 [] rfl (World.ownsRow_lit w1 #[] 0 (Nat.le_refl _) (by decide) rfl) w.heap.size A _ cap (l'.map bv) rfl ((HR.out.below HB1.out).alloc HB1.out.size _) (bv_one _) _ (Nat.zero_add _) _ rfl (by unfold maxLen; omega) (by omega) (by simp) ?_; intro A' c' w2 hown hgrow hrd; have HB2 := Lib.hid ((HB1.out.alloc HB1.out.size _).grown hgrow (Nat.le_trans HB1.out.size (by simp)) (fun k e => by cases e; exact HB1.out.size)); have HO := Lib.hid hown; have HZ := Lib.hid (show w1.heap.size ≤ w2.heap.size from Nat.le_trans (by simp) hgrow.size); clear hown hgrow hrd)
      | (at_builtin; refine wpList_append_rd _ rfl (.tmp 17) (.tmp 18) 22 rfl w1.heap.size 5 (.int .u8 0) 1 Tryd.underlying22 Tryd.info5 rfl _ _ (l'.map bv) rfl (HO.out.alloc _) (w2.heap.size + 1) (some ⟨w2.heap.size, 0, none⟩) 1 1 ([0].map bv) rfl (Rd.lit w2 #[.int .u8 0] 5 (0, 0)) (bv_one _) _ rfl ((l' ++ [0]).map bv) (by simp) (by unfold maxLen; omega) (by omega) (by have := HZ.out; simp; omega) ?_; intro A3 c3 w3 hown hgrow hrd; have HB3 := Lib.hid ((HB2.out.alloc HB2.out.size _).grown hgrow (Nat.le_trans HB2.out.size (by simp)) (fun k e => Nat.le_trans HB1.out.size (HO.out.lt k e).1)); have HO3 := Lib.hid hrd; clear hown hgrow hrd))
    have HT3 := Lib.hid (HT.out.below HB3.out HT.out.1)
    refine (sum_calls _ _ _ _ (l' ++ [0]) _ (by omega) HT3.out (by have h := Hlt.out; intro c hc; simp at hc; rcases hc with hc | rfl; exact h c hc; decide) HO3.out).mono ?_
    rw [HSb.out]
    rintro e w4 ⟨rfl, rfl⟩
    go_wp2_with (first
      | (at_builtin; refine wpList_append_rd _ rfl (.tmp 21) (.tmp 22) 22 rfl w3.heap.size 5 (.int .u8 0) 1 Tryd.underlying22 Tryd.info5 rfl _ _ ([0].map bv) rfl (World.ownsRow_lit w3 #[.int .u8 0] 1 (Nat.le_refl _) (by decide) rfl) w.heap.size A _ cap (l'.map bv) rfl ((HR.out.below HB3.out).alloc HB3.out.size _) (bv_one _) _ rfl ((0 :: l').map bv) (by simp) (by unfold maxLen; omega) (by omega) (by simp) ?_; intro A5 c5 w5 hown hgrow hrd; have HB5 := Lib.hid ((HB3.out.alloc HB3.out.size _).grown hgrow (Nat.le_trans HB3.out.size (by simp)) (fun k e => by cases e; exact HB3.out.size)); have HO5 := Lib.hid hrd; clear hown hgrow hrd))
    refine (sum_calls _ _ _ _ (0 :: l') _ (by omega) (HT.out.below HB5.out HT.out.1) (by have h := Hlt.out; intro c hc; simp at hc; rcases hc with rfl | hc; decide; exact h c hc) HO5.out).mono ?_
    rw [HSa.out]
    rintro e w6 ⟨rfl, rfl⟩
    obtain ⟨hne, hcases⟩ : Sa ≠ S ∧ ((Sb = 0 ∧ S = 0) ∨ (Sb = 61471 ∧ S = 61471) ∨ (Sb ≠ S ∧ S ≠ 0 ∧ S ≠ 61471)) := nought_facts l' Hlt.out S Sb Sa HS.out HSb.out HSa.out
    clear HS HSb HSa
    rcases hcases with ⟨rfl, rfl⟩ | ⟨rfl, rfl⟩ | ⟨h1, h2, h3⟩
    · have e1 : ((Sa : Int) == 0) = false := beq_eq_false_iff_ne.2 (by omega)
      have e2 : ((Sa : Int) != 0) = true := by rw [bne_iff_ne]; omega
      go_wp2
      go_ret
      exact ⟨rfl, HB5.out⟩
    · have e1 : ((Sa : Int) == 61471) = false := beq_eq_false_iff_ne.2 (by omega)
      have e2 : ((Sa : Int) != 61471) = true := by rw [bne_iff_ne]; omega
      go_wp2
      go_ret
      exact ⟨rfl, HB5.out⟩
    · have e1 : ((Sa : Int) == (S : Int)) = false := beq_eq_false_iff_ne.2 (by omega)
      have e2 : ((Sa : Int) != (S : Int)) = true := by rw [bne_iff_ne]; omega
      have e3 : ((Sb : Int) == (S : Int)) = false := beq_eq_false_iff_ne.2 (by omega)
      have e4 : ((S : Int) == 0) = false := beq_eq_false_iff_ne.2 (by omega)
      have e5 : ((S : Int) == 61471) = false := beq_eq_false_iff_ne.2 (by omega)
      clear hne h1 h2 h3
      go_wp2
      go_ret
      exact ⟨rfl, HB5.out⟩
end Go.Proofs.YtefgcbdfimpaoaaDoor
