/-
  The law MovesCombines, walked.
-/
import Derived.Test.YtehlehfljgphkaaShown
namespace Go.Proofs.Ytehlehfljgphkaa
open Go.RowKit

theorem comb_cases (a b : Cmd) : (okB a b = false ∧ comb a b = ⟨0, 0, 0, 0, 0⟩) ∨ (okB a b = true ∧ rightB a = true ∧ rightB b = true ∧ rightB (comb a b) = true ∧ comb a b = ⟨b.seq, b.btn, b.dx, b.dy, a.ticks + b.ticks⟩ ∧ a.btn = b.btn ∧ a.dx = b.dx ∧ a.dy = b.dy ∧ newer b.seq a.seq = true) := by
  rcases h : okB a b with _ | _
  · left; refine ⟨rfl, ?_⟩; unfold comb; rw [h]; rfl
  · right
    have hc : comb a b = both a b := by unfold comb; rw [h]; rfl
    unfold okB sameB at h
    simp only [Bool.and_eq_true] at h
    obtain ⟨h1, h2, h3, ⟨h4, h5, h6⟩, h7⟩ := h
    refine ⟨rfl, h1, h2, by rw [hc]; exact h3, ?_, by simpa using h4, by simpa using h5, by simpa using h6, h7⟩
    rw [hc]
    unfold both
    rw [wrap_right h1 h2]
theorem newer_self (a : Int) : newer a a = false := by unfold newer dist; rw [decide_eq_false]; omega
theorem okB_self (a : Cmd) : okB a a = false := by
  unfold okB
  rw [newer_self]
  simp
theorem newer_tells {a b : Int} (h : newer a b = true) : 0 < dist a b := by simpa [newer] using h

set_option maxRecDepth 100000 in
set_option maxHeartbeats 4000000 in
theorem combines (sa ba xa ya ta sb bb xb yb tb : Int) (hsa : 0 ≤ sa ∧ sa < 65536) (hsb : 0 ≤ sb ∧ sb < 65536) (w : World) :
    Calls Try.prog 4 #[.agg #[.int .u16 sa, .int .u8 ba, .int .i8 xa, .int .i8 ya, .int .i64 ta], .agg #[.int .u16 sb, .int .u8 bb, .int .i8 xb, .int .i8 yb, .int .i64 tb]] w fun e w' => e = .returned (.bool true) ∧ Below w.heap.size w w' := by
  have HS := Lib.hid (fun W => shown_calls W)
  have HC := Lib.hid (fun W => combine_calls sa ba xa ya ta sb bb xb yb tb W)
  have HD := Lib.hid (fun W => refcombine_calls sa ba xa ya ta sb bb xb yb tb hsa hsb W)
  have HE := Lib.hid (fun W => combine_calls sa ba xa ya ta sa ba xa ya ta W)
  have hfin : ∀ c : Cmd, comb ⟨sa, ba, xa, ya, ta⟩ ⟨sb, bb, xb, yb, tb⟩ = c → okB ⟨sa, ba, xa, ya, ta⟩ ⟨sb, bb, xb, yb, tb⟩ = true → rightB c = true ∧ c.seq = sb ∧ ta < c.ticks := by
    intro c hc ho
    rcases comb_cases ⟨sa, ba, xa, ya, ta⟩ ⟨sb, bb, xb, yb, tb⟩ with ⟨h, _⟩ | ⟨_, h1, h2, h3, h4, _⟩
    · rw [ho] at h; cases h
    · rw [hc] at h3 h4
      have := rightB_b h2
      dsimp only at this
      subst h4
      exact ⟨h3, rfl, by dsimp only; omega⟩
  have hself := okB_self ⟨sa, ba, xa, ya, ta⟩
  rw [hself] at HE
  obtain ⟨c, hc⟩ : ∃ c, comb ⟨sa, ba, xa, ya, ta⟩ ⟨sb, bb, xb, yb, tb⟩ = c := ⟨_, rfl⟩
  have hfin := hfin c hc
  rw [hc] at HC HD
  obtain ⟨sc, bc, xc, yc, tc⟩ := c
  obtain ⟨z, hz⟩ : ∃ z, comb ⟨sa, ba, xa, ya, ta⟩ ⟨sa, ba, xa, ya, ta⟩ = z := ⟨_, rfl⟩
  rw [hz] at HE
  obtain ⟨sz, bz, xz, yz, tz⟩ := z
  obtain ⟨ka, hka⟩ : ∃ ka, w.heap.size = ka := ⟨_, rfl⟩
  have hba : Blk ((w.alloc (.cells #[.int .u16 sa, .int .u8 ba, .int .i8 xa, .int .i8 ya, .int .i64 ta] 33)).alloc (.cells #[.int .u16 sb, .int .u8 bb, .int .i8 xb, .int .i8 yb, .int .i64 tb] 33)) ka 33 #[.int .u16 sa, .int .u8 ba, .int .i8 xa, .int .i8 ya, .int .i64 ta] := by rw [← hka]; exact (Blk.new w 33 _).alloc _
  have hbb : Blk ((w.alloc (.cells #[.int .u16 sa, .int .u8 ba, .int .i8 xa, .int .i8 ya, .int .i64 ta] 33)).alloc (.cells #[.int .u16 sb, .int .u8 bb, .int .i8 xb, .int .i8 yb, .int .i64 tb] 33)) (ka + 1) 33 #[.int .u16 sb, .int .u8 bb, .int .i8 xb, .int .i8 yb, .int .i64 tb] := by
    have := Blk.new (w.alloc (.cells #[.int .u16 sa, .int .u8 ba, .int .i8 xa, .int .i8 ya, .int .i64 ta] 33)) 33 #[.int .u16 sb, .int .u8 bb, .int .i8 xb, .int .i8 yb, .int .i64 tb]
    rwa [World.size_alloc, hka] at this
  have hg0 : w.grownBy ((w.alloc (.cells #[.int .u16 sa, .int .u8 ba, .int .i8 xa, .int .i8 ya, .int .i64 ta] 33)).alloc (.cells #[.int .u16 sb, .int .u8 bb, .int .i8 xb, .int .i8 yb, .int .i64 tb] 33)) none := by repeat (first | exact World.grownBy.refl _ _ | refine only_trans ?_ (World.grownBy_alloc _ _ none))
  have BA := Lib.hid hba
  have BB := Lib.hid hbb
  have HG := Lib.hid hg0
  clear hba hbb hg0
  rcases hok : okB ⟨sa, ba, xa, ya, ta⟩ ⟨sb, bb, xb, yb, tb⟩ with _ | _
  all_goals
    rw [hok] at HC HD hfin
    clear hc hz hself hok
    have HFN := Lib.hid hfin
    clear hfin
    dsimp only [Cmd.val] at HC HD HE
    have HKA := Lib.hid hka
    go_enter Try.func4, Try.ntmps4
    go_wp2_with fail
    refine (HS.out _).mono ?_
    rintro e w1 ⟨rfl, h1⟩
    have BA1 := Lib.hid (BA.out.grown h1 (by simp))
    have BB1 := Lib.hid (BB.out.grown h1 (by simp))
    have HG1 := Lib.hid (only_trans HG.out h1)
    obtain ⟨a0, a1, a2, a3, a4⟩ := cm_cells BA1.out
    obtain ⟨b0, b1, b2, b3, b4⟩ := cm_cells BB1.out
    clear h1 BA BB HG
    go_wp2_with fail
    clear a0 a1 a2 a3 a4 b0 b1 b2 b3 b4
    refine (HC.out _).mono ?_
    rintro e w2 ⟨rfl, h2⟩
    have BA2 := Lib.hid (BA1.out.grown h2 (by simp))
    have BB2 := Lib.hid (BB1.out.grown h2 (by simp))
    have HG2 := Lib.hid (only_trans HG1.out h2)
    obtain ⟨a0, a1, a2, a3, a4⟩ := cm_cells BA2.out
    obtain ⟨b0, b1, b2, b3, b4⟩ := cm_cells BB2.out
    have la := BA2.out.lt
    have lb := BB2.out.lt
    clear h2 BA1 BB1 HG1
    go_wp2_with fail
    have BA3 := Lib.hid (BA2.out.alloc (.cells #[.int .u16 sc, .int .u8 bc, .int .i8 xc, .int .i8 yc, .int .i64 tc] 33))
    have BB3 := Lib.hid (BB2.out.alloc (.cells #[.int .u16 sc, .int .u8 bc, .int .i8 xc, .int .i8 yc, .int .i64 tc] 33))
    have BC3 := Lib.hid (Blk.new w2 33 #[.int .u16 sc, .int .u8 bc, .int .i8 xc, .int .i8 yc, .int .i64 tc])
    have HG3 := Lib.hid (only_trans HG2.out (World.grownBy_alloc w2 (.cells #[.int .u16 sc, .int .u8 bc, .int .i8 xc, .int .i8 yc, .int .i64 tc] 33) none))
    clear a0 a1 a2 a3 a4 b0 b1 b2 b3 b4 la lb
    obtain ⟨w3, hw3⟩ : ∃ w3, w2.alloc (.cells #[.int .u16 sc, .int .u8 bc, .int .i8 xc, .int .i8 yc, .int .i64 tc] 33) = w3 := ⟨_, rfl⟩
    obtain ⟨kc, hkc⟩ : ∃ kc, w2.heap.size = kc := ⟨_, rfl⟩
    rw [hw3] at BA3 BB3 BC3 HG3
    rw [hw3]
    rw [hkc] at BC3
    rw [hkc]
    clear hw3 hkc BA2 BB2 HG2
    refine (HD.out _).mono ?_
    rintro e w4 ⟨rfl, h4⟩
    have BA4 := Lib.hid (BA3.out.grown h4 (by simp))
    have BB4 := Lib.hid (BB3.out.grown h4 (by simp))
    have BC4 := Lib.hid (BC3.out.grown h4 (by simp))
    have HG4 := Lib.hid (only_trans HG3.out h4)
    obtain ⟨a0, a1, a2, a3, a4⟩ := cm_cells BA4.out
    have la := BA4.out.lt
    clear h4 BA3 BB3 BC3 HG3
    go_wp2_with fail
    have BA5 := Lib.hid (BA4.out.alloc (.cells #[.int .u16 sc, .int .u8 bc, .int .i8 xc, .int .i8 yc, .int .i64 tc] 33))
    have BB5 := Lib.hid (BB4.out.alloc (.cells #[.int .u16 sc, .int .u8 bc, .int .i8 xc, .int .i8 yc, .int .i64 tc] 33))
    have BC5 := Lib.hid (BC4.out.alloc (.cells #[.int .u16 sc, .int .u8 bc, .int .i8 xc, .int .i8 yc, .int .i64 tc] 33))
    have BD5 := Lib.hid (Blk.new w4 33 #[.int .u16 sc, .int .u8 bc, .int .i8 xc, .int .i8 yc, .int .i64 tc])
    have HG5 := Lib.hid (only_trans HG4.out (World.grownBy_alloc w4 (.cells #[.int .u16 sc, .int .u8 bc, .int .i8 xc, .int .i8 yc, .int .i64 tc] 33) none))
    clear a0 a1 a2 a3 a4 la
    obtain ⟨w5, hw5⟩ : ∃ w5, w4.alloc (.cells #[.int .u16 sc, .int .u8 bc, .int .i8 xc, .int .i8 yc, .int .i64 tc] 33) = w5 := ⟨_, rfl⟩
    obtain ⟨kd, hkd⟩ : ∃ kd, w4.heap.size = kd := ⟨_, rfl⟩
    rw [hw5] at BA5 BB5 BC5 BD5 HG5
    rw [hw5]
    rw [hkd] at BD5
    rw [hkd]
    clear hw5 hkd BA4 BB4 BC4 HG4
    refine (HE.out _).mono ?_
    rintro e w6 ⟨rfl, h6⟩
    have hA6 := BA5.out.grown h6 (by simp)
    have hB6 := BB5.out.grown h6 (by simp)
    have hC6 := BC5.out.grown h6 (by simp)
    have hD6 := BD5.out.grown h6 (by simp)
    have HG6 := Lib.hid (only_trans HG5.out h6)
    obtain ⟨a0, a1, a2, a3, a4⟩ := cm_cells hA6
    obtain ⟨b0, b1, b2, b3, b4⟩ := cm_cells hB6
    obtain ⟨c0, c1, c2, c3, c4⟩ := cm_cells hC6
    obtain ⟨d0, d1, d2, d3, d4⟩ := cm_cells hD6
    have la := hA6.lt
    have lb := hB6.lt
    have lc := hC6.lt
    have ld := hD6.lt
    have la1 : ka < w6.heap.size + 1 := by omega
    have lb1 : ka + 1 < w6.heap.size + 1 := by omega
    have lc1 : kc < w6.heap.size + 1 := by omega
    clear h6 hA6 hB6 hC6 hD6 BA5 BB5 BC5 BD5 HG5
  · go_wp2_with fail
    go_ret
    exact ⟨rfl, HKA.out ▸ below_grown (by repeat (first | exact HG6.out | refine only_trans ?_ (World.grownBy_alloc _ _ none)))⟩
  · obtain ⟨hr, hs, htt⟩ := HFN.out (by trivial)
    have hs2 : (sc == sb) = true := by simpa using hs
    clear hs
    go_wp2_with (go_at_call 22; refine (refright_calls _ _ _ _ _ _).mono ?_; rintro e w1 ⟨rfl, rfl⟩)
    go_ret
    exact ⟨rfl, HKA.out ▸ below_grown (by repeat (first | exact HG6.out | refine only_trans ?_ (World.grownBy_alloc _ _ none)))⟩
end Go.Proofs.Ytehlehfljgphkaa
