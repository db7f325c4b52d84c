/-
  The law MovesOnce, walked.
-/
import Derived.Test.YtehlehfljgphkaaCombines
namespace Go.Proofs.Ytehlehfljgphkaa
open Go.RowKit

theorem addC_zero {s : Bool} {last : Int} {n : Nat} {c : Cmd} (h : addC s last n c = 0) (hn : n ≤ 64) : n < 64 ∧ rightB c = true ∧ (s = true → newer c.seq last = true) := by
  unfold addC at h
  split at h
  · rename_i hr
    split at h
    · cases h
    · rename_i hs
      split at h
      · cases h
      · refine ⟨by omega, hr, fun e => ?_⟩
        rcases hx : newer c.seq last with _ | _
        · exact absurd ⟨e, hx⟩ hs
        · rfl
  · cases h
theorem addC_again {n : Nat} {c : Cmd} (h : rightB c = true) : addC true c.seq n c = 7 := by
  unfold addC
  rw [if_pos h, if_pos ⟨rfl, newer_self _⟩]
/-- Moves of the call's own, with at most sixty-four saved. -/
def Some64 (w0 w : World) (g : Nat) : Prop := ∃ l s last v, Own w0 w g l s last v ∧ l.length ≤ 64
theorem Own.some_ {w0 w : World} {g : Nat} {l : List Cmd} {s : Bool} {last : Int} {v : Value} (h : Own w0 w g l s last v) (hl : l.length ≤ 64) : Some64 w0 w g := ⟨l, s, last, v, h, hl⟩
def bcl (b : Bool) : List Value := [.bool b]
theorem bcl_len (b : Bool) : (bcl b).length = 1 := rfl
abbrev Rb (w : World) (B : Nat) (A : Option Addr) (n : Nat) (bs : List Bool) : Prop := Rg 1 bcl w B A n bs
theorem Rb.cell {w : World} {B n : Nat} {A : Option Addr} {bs : List Bool} (h : Rb w B A n bs) {k : Nat} (hk : k < n) : ∃ b off x, A = some ⟨b, off, none⟩ ∧ b < B ∧ w.cell? ⟨b, off + k, none⟩ = some (.bool x) := by
  obtain ⟨b, off, x, e, hb, _, hr⟩ := h.at_ bcl_len hk
  refine ⟨b, off, x, e, hb, ?_⟩
  have := hr 0 (.bool x) rfl
  rwa [Nat.mul_one] at this

set_option maxRecDepth 100000 in
set_option maxHeartbeats 8000000 in
theorem once (A : Option Addr) (m cap : Nat) (l : List Cmd) (A2 : Option Addr) (m2 cap2 : Nat) (bs : List Bool) (w : World) (hm : m ≤ 9223372036854775807)
    (hR : Rc w w.heap.size A m l) (hR2 : Rb w w.heap.size A2 m2 bs) :
    Calls Try.prog 8 #[.slice A m cap, .slice A2 m2 cap2] w fun e w' => e = .returned (.bool true) ∧ Below w.heap.size w w' := by
  have HR := Lib.hid hR
  have HR2 := Lib.hid hR2
  clear hR hR2
  go_enter Try.func8, Try.ntmps8
  go_wp2_with fail
  refine (shown_calls w).mono ?_
  rintro e w1 ⟨rfl, h1⟩
  have G1 := Lib.hid h1
  clear h1
  go_wp2_with fail
  refine (new_calls w1).mono ?_
  rintro e w2 ⟨rfl, rfl⟩
  have HO2 : Hid (Some64 w (w1.alloc (.cells #[.slice none 0 0, .bool false, .int .u16 0] 64)) w1.heap.size) := Lib.hid (Own.some_ ⟨only_trans G1.out (World.grownBy_alloc _ _ _), G1.out.size, Mv.new w1⟩ (by simp))
  obtain ⟨w2, hw2⟩ : ∃ w2, w1.alloc (.cells #[.slice none 0 0, .bool false, .int .u16 0] 64) = w2 := ⟨_, rfl⟩
  obtain ⟨g, hg⟩ : ∃ g, w1.heap.size = g := ⟨_, rfl⟩
  rw [hw2, hg] at HO2
  rw [hw2, hg]
  clear hw2 hg G1
  go_wp2_with fail
  go_loopw [7] (fun i wr => ∃ k : Nat, k ≤ m ∧ k ≤ 100 ∧ i = .int .i64 k ∧ Hid (Some64 w wr g)) (fun i _ => m - (intOf i).toNat)
  case atStart => exact ⟨0, by omega, by omega, rfl, HO2⟩
  case round =>
    obtain ⟨k, hk, hk100, rfl, HS⟩ := hrel
    by_cases hlt : k < m ∧ k < 100
    · obtain ⟨hlt, hlt100⟩ := hlt
      obtain ⟨lst, s, last, v, hO, hl64⟩ := HS.out
      have HO := Lib.hid hO
      clear hO HS
      obtain ⟨b, off, c, rfl, hb, hx, hr⟩ := HR.out.at_ Cmd.cl_len hlt
      have HC : Hid (∀ W : World, w.grownBy W none → W.rangeAt b (off + k * 5) c.cl) := Lib.hid (fun W hW j u hu => hW.cell (hr j u hu) (by simp))
      clear hr hx hb
      obtain ⟨sq, bt, dx, dy, t⟩ := c
      obtain ⟨c0, c1, c2, c3, c4⟩ := cmd_cells (HC.out wr HO.out.grown)
      obtain ⟨code, hcode⟩ : ∃ code, addC s last lst.length ⟨sq, bt, dx, dy, t⟩ = code := ⟨_, rfl⟩
      by_cases hz : code = 0
      · subst hz
        obtain ⟨hl, hrt, hnw⟩ := addC_zero hcode hl64
        clear hcode
        go_wp2_with fail
        clear c0 c1 c2 c3 c4
        refine (add_yes g lst s last v sq bt dx dy t wr HO.out.mv hl hrt hnw).mono ?_
        rintro e w3 ⟨rfl, v3, h3, o3, f3⟩
        have HO3 := Lib.hid (HO.out.frm f3 h3)
        have hlen : (lst ++ [(⟨sq, bt, dx, dy, t⟩ : Cmd)]).length ≤ 64 := by simp; omega
        obtain ⟨l3, hl3⟩ : ∃ l3, lst ++ [(⟨sq, bt, dx, dy, t⟩ : Cmd)] = l3 := ⟨_, rfl⟩
        rw [hl3] at HO3 hlen
        obtain ⟨n3, hn3⟩ : ∃ n3, l3.length = n3 := ⟨_, rfl⟩
        rw [hn3] at hlen
        have HN3 := Lib.hid hn3
        clear h3 o3 f3 hl3 HO hn3 hnw hl hl64
        go_wp2_with fail
        refine (saved_calls g l3 true sq v3 (by rw [HN3.out]; omega) w3 HO3.out.mv).mono ?_
        rintro e w4 ⟨A4, q4, rfl, _, h4⟩
        rw [HN3.out]
        have HO4 := Lib.hid (HO3.out.grown_ h4)
        clear h4 HO3
        by_cases hlt2 : k < m2
        · obtain ⟨b2, off2, x2, rfl, hb2, hx2⟩ := HR2.out.cell hlt2
          have hx4 := HO4.out.grown.cell hx2 (by simp)
          clear hb2 hx2
          rcases x2 with _ | _
          · obtain ⟨c0, c1, c2, c3, c4⟩ := cmd_cells (HC.out w4 HO4.out.grown)
            go_wp2_with fail
            clear c0 c1 c2 c3 c4
            refine (add_no g l3 true sq _ sq bt dx dy t w4 HO4.out.mv (by rw [HN3.out]; omega) (by rw [addC_again hrt]; decide)).mono ?_
            rintro e w8 ⟨rfl, h8⟩
            rw [addC_again (c := ⟨sq, bt, dx, dy, t⟩) hrt]
            have HO8 := Lib.hid (HO4.out.grown_ h8)
            clear h8
            go_wp2_with fail
            refine (saved_calls g l3 true sq _ (by rw [HN3.out]; omega) w8 HO8.out.mv).mono ?_
            rintro e w9 ⟨A9, q9, rfl, _, h9⟩
            rw [HN3.out]
            have HO9 := Lib.hid (HO8.out.grown_ h9)
            clear h9
            go_wp2_with fail
            go_roundw
            case rel => exact ⟨k + 1, by omega, by omega, by go_num, Lib.hid (HO9.out.some_ (by rw [HN3.out]; omega))⟩
            case measure => simp [intOf]; omega
          · obtain ⟨c0, c1, c2, c3, c4⟩ := cmd_cells (HC.out w4 HO4.out.grown)
            go_wp2_with fail
            clear c0 c1 c2 c3 c4
            refine (acked_calls g l3 true sq sq v3 (by rw [HN3.out]; omega) w4 HO4.out.mv).mono ?_
            rintro e w5 ⟨rfl, v5, h5, o5, f5⟩
            have HO5 := Lib.hid (HO4.out.frm f5 h5)
            obtain ⟨a, ha⟩ : ∃ a, ackN sq l3 = a := ⟨_, rfl⟩
            have hale : a ≤ n3 := by rw [← ha, ← HN3.out]; exact ackN_le _ _
            rw [ha] at HO5
            rw [ha]
            obtain ⟨l5, hl5⟩ : ∃ l5, l3.drop a = l5 := ⟨_, rfl⟩
            rw [hl5] at HO5
            obtain ⟨n5, hn5⟩ : ∃ n5, l5.length = n5 := ⟨_, rfl⟩
            have hn5le : n5 ≤ n3 := by rw [← hn5, ← hl5, List.length_drop, HN3.out]; omega
            have HN5 := Lib.hid hn5
            clear h5 o5 f5 hl5 hn5 ha HO4
            go_wp2_with fail
            refine (saved_calls g l5 true sq v5 (by rw [HN5.out]; omega) w5 HO5.out.mv).mono ?_
            rintro e w6 ⟨A6, q6, rfl, _, h6⟩
            rw [HN5.out]
            have HO6 := Lib.hid (HO5.out.grown_ h6)
            clear h6 HO5
            obtain ⟨c0, c1, c2, c3, c4⟩ := cmd_cells (HC.out w6 HO6.out.grown)
            go_wp2_with fail
            clear c0 c1 c2 c3 c4
            refine (add_no g l5 true sq _ sq bt dx dy t w6 HO6.out.mv (by rw [HN5.out]; omega) (by rw [addC_again hrt]; decide)).mono ?_
            rintro e w8 ⟨rfl, h8⟩
            rw [addC_again (c := ⟨sq, bt, dx, dy, t⟩) hrt]
            have HO8 := Lib.hid (HO6.out.grown_ h8)
            clear h8
            go_wp2_with fail
            refine (saved_calls g l5 true sq _ (by rw [HN5.out]; omega) w8 HO8.out.mv).mono ?_
            rintro e w9 ⟨A9, q9, rfl, _, h9⟩
            rw [HN5.out]
            have HO9 := Lib.hid (HO8.out.grown_ h9)
            clear h9
            go_wp2_with fail
            go_roundw
            case rel => exact ⟨k + 1, by omega, by omega, by go_num, Lib.hid (HO9.out.some_ (by rw [HN5.out]; omega))⟩
            case measure => simp [intOf]; omega
        · obtain ⟨c0, c1, c2, c3, c4⟩ := cmd_cells (HC.out w4 HO4.out.grown)
          go_wp2_with fail
          clear c0 c1 c2 c3 c4
          refine (add_no g l3 true sq _ sq bt dx dy t w4 HO4.out.mv (by rw [HN3.out]; omega) (by rw [addC_again hrt]; decide)).mono ?_
          rintro e w8 ⟨rfl, h8⟩
          rw [addC_again (c := ⟨sq, bt, dx, dy, t⟩) hrt]
          have HO8 := Lib.hid (HO4.out.grown_ h8)
          clear h8
          go_wp2_with fail
          refine (saved_calls g l3 true sq _ (by rw [HN3.out]; omega) w8 HO8.out.mv).mono ?_
          rintro e w9 ⟨A9, q9, rfl, _, h9⟩
          rw [HN3.out]
          have HO9 := Lib.hid (HO8.out.grown_ h9)
          clear h9
          go_wp2_with fail
          go_roundw
          case rel => exact ⟨k + 1, by omega, by omega, by go_num, Lib.hid (HO9.out.some_ (by rw [HN3.out]; omega))⟩
          case measure => simp [intOf]; omega
      · have hcz : (code == 0) = false := beq_eq_false_iff_ne.2 hz
        go_wp2_with fail
        clear c0 c1 c2 c3 c4
        refine (add_no g lst s last v sq bt dx dy t wr HO.out.mv hl64 (by rw [hcode]; exact hz)).mono ?_
        rintro e w3 ⟨rfl, h3⟩
        rw [hcode]
        have HO3 := Lib.hid (HO.out.grown_ h3)
        obtain ⟨n3, hn3⟩ : ∃ n3, lst.length = n3 := ⟨_, rfl⟩
        have HN3 := Lib.hid hn3
        have HCD := Lib.hid hcode
        rw [hn3] at hl64
        clear h3 HO hn3 hcode
        go_wp2_with fail
        refine (saved_calls g lst s last v (by rw [HN3.out]; omega) w3 HO3.out.mv).mono ?_
        rintro e w4 ⟨A4, q4, rfl, _, h4⟩
        rw [HN3.out]
        have HO4 := Lib.hid (HO3.out.grown_ h4)
        clear h4 HO3
        obtain ⟨c0, c1, c2, c3, c4⟩ := cmd_cells (HC.out w4 HO4.out.grown)
        go_wp2_with fail
        clear c0 c1 c2 c3 c4
        refine (add_no g lst s last v sq bt dx dy t w4 HO4.out.mv (by rw [HN3.out]; omega) (by rw [HCD.out]; exact hz)).mono ?_
        rintro e w8 ⟨rfl, h8⟩
        rw [HCD.out]
        have HO8 := Lib.hid (HO4.out.grown_ h8)
        clear h8
        go_wp2_with fail
        refine (saved_calls g lst s last v (by rw [HN3.out]; omega) w8 HO8.out.mv).mono ?_
        rintro e w9 ⟨A9, q9, rfl, _, h9⟩
        rw [HN3.out]
        have HO9 := Lib.hid (HO8.out.grown_ h9)
        clear h9
        go_wp2_with fail
        go_roundw
        case rel => exact ⟨k + 1, by omega, by omega, by go_num, Lib.hid (HO9.out.some_ (by rw [HN3.out]; omega))⟩
        case measure => simp [intOf]; omega
    · obtain ⟨lst, s, last, v, hO, hl64⟩ := HS.out
      have HO := Lib.hid hO
      clear hO HS
      go_wp2_with fail
      all_goals
        go_ret
        exact ⟨rfl, below_grown HO.out.grown⟩
end Go.Proofs.Ytehlehfljgphkaa
