/-
  The law CrcTells, walked: for any bytes and any sum ahead it returns true and writes nothing that was there.
-/
import Derived.Test.YtefgcbdfimpaoaaDoorRef
namespace Go.Proofs.YtefgcbdfimpaoaaDoor
open Go.RowKit
theorem Tryd.info5 : (Tryd.prog.info? 5).map (fun i => (i.zero, i.size, i.bytes)) = some (some (.int .u8 0), 1, 1) := by kernel_rfl

set_option maxHeartbeats 400000 in
theorem tells (A : Option Addr) (n cap : Nat) (l : List Nat) (s : Nat) (w : World) (hs : s < 65536) (hn : n ≤ cap) (hcap : cap ≤ 9223372036854775807) (hT : Table w) (hlt : ∀ c ∈ l, c < 256)
    (hR : Rd w w.heap.size A n (l.map bv)) :
    Calls Tryd.prog 3 #[.slice A n cap, .int .u16 (s : Int)] w fun e w' => e = .returned (.bool true) ∧ Below w.heap.size w w' := by
  have HT := Lib.hid hT
  obtain ⟨m, hm, hm2, hmc⟩ : ∃ m, m ≤ n ∧ m ≤ 2000 ∧ ((m = 2000 ∧ 2000 < n) ∨ (m = n ∧ n ≤ 2000)) := by
    by_cases h : 2000 < n
    · exact ⟨2000, by omega, by omega, .inl ⟨rfl, h⟩⟩
    · exact ⟨n, by omega, by omega, .inr ⟨rfl, by omega⟩⟩
  obtain ⟨l', Hl'⟩ : ∃ l', Hid (l' = l.take m) := ⟨_, Lib.hid rfl⟩
  have HR := Lib.hid ((hR.take_ hm).of_ (by rw [Hl'.out, List.map_take]) : Rd w w.heap.size A m (l'.map bv))
  have Hlt : Hid (∀ c ∈ l', c < 256) := Lib.hid (fun c hc => hlt c (List.mem_of_mem_take (Hl'.out ▸ hc)))
  have HL : Hid (l'.length = m) := Lib.hid (by simpa using HR.out.1)
  clear hT hR hlt
  rcases hmc with ⟨rfl, h⟩ | ⟨rfl, h⟩
  all_goals
    go_enter Tryd.func3, Tryd.ntmps3
    go_wp2_with (first
      | (go_at_call 8; refine (shown_calls _ HT.out).mono ?_; rintro e w1 ⟨rfl, hB1⟩; have HB1 := Lib.hid hB1; clear hB1)
      | (at_builtin; refine wpList_append_rd _ rfl (.tmp 14) (.tmp 15) 22 rfl w1.heap.size 5 (.int .u8 0) 1 Tryd.underlying22 Tryd.info5 rfl _ 0 [] rfl (World.ownsRow_lit w1 #[] 0 (Nat.le_refl _) (by decide) rfl) w.heap.size A _ cap (l'.map bv) rfl ((HR.out.below HB1.out).alloc HB1.out.size _) (bv_one _) _ (Nat.zero_add _) _ rfl (by unfold maxLen; omega) (by omega) (by simp) ?_; intro A' c' w2 hown hgrow hrd; have HB2 := Lib.hid ((HB1.out.alloc HB1.out.size _).grown hgrow (Nat.le_trans HB1.out.size (by simp)) (fun k e => by cases e; exact HB1.out.size)); have HR2 := Lib.hid (HR.out.below HB2.out); have HT2 := Lib.hid (HT.out.below HB2.out HT.out.1); have HO := Lib.hid hrd; have hst1 := run_string_rd (P := Tryd.prog) w2 22 5 9 Tryd.underlying22 Tryd.underlying5 Tryd.underlying9 cap HR2.out; have hst2 := run_string_rd (P := Tryd.prog) w2 22 5 9 Tryd.underlying22 Tryd.underlying5 Tryd.underlying9 c' HO.out; clear hown hgrow hrd)
      | (go_at_call 9; refine (sum_calls _ _ _ _ l' _ (by omega) HT2.out Hlt.out HO.out).mono ?_; rintro e w3 ⟨rfl, rfl⟩)
      | (go_at_call 10; refine (refsum_calls l' _ (by have := HL.out; omega) Hlt.out).mono ?_; rintro e w3 ⟨rfl, rfl⟩)
      | (go_at_call 11; refine (more_calls s _ _ _ _ l' _ hs (by omega) HT2.out Hlt.out HO.out).mono ?_; rintro e w3 ⟨rfl, rfl⟩)
      | (go_at_call 12; refine (refmore_calls s l' _ hs (by have := HL.out; omega) Hlt.out).mono ?_; rintro e w3 ⟨rfl, rfl⟩))
    go_ret
    exact ⟨rfl, HB2.out⟩
end Go.Proofs.YtefgcbdfimpaoaaDoor
