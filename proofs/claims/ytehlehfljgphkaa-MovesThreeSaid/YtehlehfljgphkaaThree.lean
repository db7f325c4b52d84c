/-
  The law MovesThree, walked.
-/
import Derived.Test.YtehlehfljgphkaaCombines
namespace Go.Proofs.Ytehlehfljgphkaa
open Go.RowKit

/-- If the first two are one, and that and the third, then the last two are, and the first and that, if it is one, is the same. -/
theorem three_law (a b c : Cmd) (h1 : okB a b = true) (h2 : okB (comb a b) c = true) : okB b c = true ∧ (okB a (comb b c) = true → comb a (comb b c) = comb (comb a b) c) := by
  rcases comb_cases a b with ⟨h, _⟩ | ⟨_, ra, rb, rab, eab, q1, q2, q3, nw⟩
  · rw [h1] at h; cases h
  rcases comb_cases (comb a b) c with ⟨h, _⟩ | ⟨_, _, rc, rx, ex, p1, p2, p3, nx⟩
  · rw [h2] at h; cases h
  have ba := rightB_b ra
  have bb := rightB_b rb
  have bc := rightB_b rc
  rw [ex] at rx
  have bx := rightB_b rx
  rw [eab] at p1 p2 p3 nx bx
  dsimp only at p1 p2 p3 nx bx
  have hbc : okB b c = true := by
    unfold okB sameB
    rw [rightB_both rb rc, rb, rc, p1, p2, p3, nx]
    simp
    omega
  refine ⟨hbc, fun h => ?_⟩
  rcases comb_cases b c with ⟨h', _⟩ | ⟨_, _, _, _, ebc, _⟩
  · rw [hbc] at h'; cases h'
  rcases comb_cases a (comb b c) with ⟨h', _⟩ | ⟨_, _, _, _, ey, _⟩
  · rw [h] at h'; cases h'
  rw [ey, ex, ebc, eab]
  dsimp only
  rw [Int.add_assoc]

set_option maxRecDepth 100000 in
set_option maxHeartbeats 4000000 in
theorem three (sa ba xa ya ta sb bb xb yb tb sc bc xc yc tc : Int) (w : World) :
    Calls Try.prog 5 #[.agg #[.int .u16 sa, .int .u8 ba, .int .i8 xa, .int .i8 ya, .int .i64 ta], .agg #[.int .u16 sb, .int .u8 bb, .int .i8 xb, .int .i8 yb, .int .i64 tb], .agg #[.int .u16 sc, .int .u8 bc, .int .i8 xc, .int .i8 yc, .int .i64 tc]] w fun e w' => e = .returned (.bool true) ∧ Below w.heap.size w w' := by
  have HS := Lib.hid (fun W => shown_calls W)
  have H1 := Lib.hid (fun W => combine_calls sa ba xa ya ta sb bb xb yb tb W)
  obtain ⟨c1, e1⟩ : ∃ c1, comb ⟨sa, ba, xa, ya, ta⟩ ⟨sb, bb, xb, yb, tb⟩ = c1 := ⟨_, rfl⟩
  have hlaw := three_law ⟨sa, ba, xa, ya, ta⟩ ⟨sb, bb, xb, yb, tb⟩ ⟨sc, bc, xc, yc, tc⟩
  rw [e1] at H1 hlaw
  obtain ⟨sp, bp, xp, yp, tp⟩ := c1
  have H2 := Lib.hid (fun W => combine_calls sp bp xp yp tp sc bc xc yc tc W)
  obtain ⟨c2, e2⟩ : ∃ c2, comb ⟨sp, bp, xp, yp, tp⟩ ⟨sc, bc, xc, yc, tc⟩ = c2 := ⟨_, rfl⟩
  rw [e2] at H2 hlaw
  obtain ⟨sq, bq, xq, yq, tq⟩ := c2
  have H3 := Lib.hid (fun W => combine_calls sb bb xb yb tb sc bc xc yc tc W)
  obtain ⟨c3, e3⟩ : ∃ c3, comb ⟨sb, bb, xb, yb, tb⟩ ⟨sc, bc, xc, yc, tc⟩ = c3 := ⟨_, rfl⟩
  rw [e3] at H3 hlaw
  obtain ⟨sr, br, xr, yr, tr⟩ := c3
  have H4 := Lib.hid (fun W => combine_calls sa ba xa ya ta sr br xr yr tr W)
  obtain ⟨c4, e4⟩ : ∃ c4, comb ⟨sa, ba, xa, ya, ta⟩ ⟨sr, br, xr, yr, tr⟩ = c4 := ⟨_, rfl⟩
  rw [e4] at H4 hlaw
  obtain ⟨ss, bs, xs, ys, ts⟩ := c4
  obtain ⟨o1, f1⟩ : ∃ o, okB ⟨sa, ba, xa, ya, ta⟩ ⟨sb, bb, xb, yb, tb⟩ = o := ⟨_, rfl⟩
  obtain ⟨o2, f2⟩ : ∃ o, okB ⟨sp, bp, xp, yp, tp⟩ ⟨sc, bc, xc, yc, tc⟩ = o := ⟨_, rfl⟩
  obtain ⟨o3, f3⟩ : ∃ o, okB ⟨sb, bb, xb, yb, tb⟩ ⟨sc, bc, xc, yc, tc⟩ = o := ⟨_, rfl⟩
  obtain ⟨o4, f4⟩ : ∃ o, okB ⟨sa, ba, xa, ya, ta⟩ ⟨sr, br, xr, yr, tr⟩ = o := ⟨_, rfl⟩
  rw [f1] at H1 hlaw
  rw [f2] at H2 hlaw
  rw [f3] at H3 hlaw
  rw [f4] at H4 hlaw
  clear e1 e2 e3 e4 f1 f2 f3 f4
  dsimp only [Cmd.val] at H1 H2 H3 H4
  obtain ⟨ka, hka⟩ : ∃ ka, w.heap.size = ka := ⟨_, rfl⟩
  have hba : Blk (((w.alloc (.cells #[.int .u16 sa, .int .u8 ba, .int .i8 xa, .int .i8 ya, .int .i64 ta] 33)).alloc (.cells #[.int .u16 sb, .int .u8 bb, .int .i8 xb, .int .i8 yb, .int .i64 tb] 33)).alloc (.cells #[.int .u16 sc, .int .u8 bc, .int .i8 xc, .int .i8 yc, .int .i64 tc] 33)) ka 33 #[.int .u16 sa, .int .u8 ba, .int .i8 xa, .int .i8 ya, .int .i64 ta] := by rw [← hka]; exact ((Blk.new w 33 _).alloc _).alloc _
  have hbb : Blk (((w.alloc (.cells #[.int .u16 sa, .int .u8 ba, .int .i8 xa, .int .i8 ya, .int .i64 ta] 33)).alloc (.cells #[.int .u16 sb, .int .u8 bb, .int .i8 xb, .int .i8 yb, .int .i64 tb] 33)).alloc (.cells #[.int .u16 sc, .int .u8 bc, .int .i8 xc, .int .i8 yc, .int .i64 tc] 33)) (ka + 1) 33 #[.int .u16 sb, .int .u8 bb, .int .i8 xb, .int .i8 yb, .int .i64 tb] := by
    have := (Blk.new (w.alloc (.cells #[.int .u16 sa, .int .u8 ba, .int .i8 xa, .int .i8 ya, .int .i64 ta] 33)) 33 #[.int .u16 sb, .int .u8 bb, .int .i8 xb, .int .i8 yb, .int .i64 tb]).alloc (.cells #[.int .u16 sc, .int .u8 bc, .int .i8 xc, .int .i8 yc, .int .i64 tc] 33)
    rwa [World.size_alloc, hka] at this
  have hbc : Blk (((w.alloc (.cells #[.int .u16 sa, .int .u8 ba, .int .i8 xa, .int .i8 ya, .int .i64 ta] 33)).alloc (.cells #[.int .u16 sb, .int .u8 bb, .int .i8 xb, .int .i8 yb, .int .i64 tb] 33)).alloc (.cells #[.int .u16 sc, .int .u8 bc, .int .i8 xc, .int .i8 yc, .int .i64 tc] 33)) (ka + 1 + 1) 33 #[.int .u16 sc, .int .u8 bc, .int .i8 xc, .int .i8 yc, .int .i64 tc] := by
    have := Blk.new ((w.alloc (.cells #[.int .u16 sa, .int .u8 ba, .int .i8 xa, .int .i8 ya, .int .i64 ta] 33)).alloc (.cells #[.int .u16 sb, .int .u8 bb, .int .i8 xb, .int .i8 yb, .int .i64 tb] 33)) 33 #[.int .u16 sc, .int .u8 bc, .int .i8 xc, .int .i8 yc, .int .i64 tc]
    rwa [World.size_alloc, World.size_alloc, hka] at this
  have hg0 : w.grownBy (((w.alloc (.cells #[.int .u16 sa, .int .u8 ba, .int .i8 xa, .int .i8 ya, .int .i64 ta] 33)).alloc (.cells #[.int .u16 sb, .int .u8 bb, .int .i8 xb, .int .i8 yb, .int .i64 tb] 33)).alloc (.cells #[.int .u16 sc, .int .u8 bc, .int .i8 xc, .int .i8 yc, .int .i64 tc] 33)) none := by repeat (first | exact World.grownBy.refl _ _ | refine only_trans ?_ (World.grownBy_alloc _ _ none))
  have BA := Lib.hid hba
  have BB := Lib.hid hbb
  have BC := Lib.hid hbc
  have HG := Lib.hid hg0
  clear hba hbb hbc hg0
  have HKA := Lib.hid hka
  rcases (by
    rcases o1 with _ | _
    · exact .inl rfl
    · rcases o2 with _ | _
      · exact .inr (.inl ⟨rfl, rfl⟩)
      · obtain ⟨h3, h4⟩ := hlaw rfl rfl
        rcases o4 with _ | _
        · exact .inr (.inr (.inl ⟨rfl, rfl, h3, rfl⟩))
        · exact .inr (.inr (.inr ⟨rfl, rfl, h3, rfl, (h4 rfl).symm⟩)) : o1 = false ∨ (o1 = true ∧ o2 = false) ∨ (o1 = true ∧ o2 = true ∧ o3 = true ∧ o4 = false) ∨ (o1 = true ∧ o2 = true ∧ o3 = true ∧ o4 = true ∧ (⟨sq, bq, xq, yq, tq⟩ : Cmd) = ⟨ss, bs, xs, ys, ts⟩)) with rfl | ⟨rfl, rfl⟩ | ⟨rfl, rfl, rfl, rfl⟩ | ⟨rfl, rfl, rfl, rfl, hxy⟩
  rotate_left 3
  · injection hxy with z1 z2 z3 z4 z5
    subst z1 z2 z3 z4 z5
    clear hlaw
    go_enter Try.func5, Try.ntmps5
    go_wp2_with fail
    refine (HS.out _).mono ?_
    rintro e w1 ⟨rfl, h1⟩
    have BA1 := Lib.hid (BA.out.grown h1 (by simp))
    have BB1 := Lib.hid (BB.out.grown h1 (by simp))
    have BC1 := Lib.hid (BC.out.grown h1 (by simp))
    have HG1 := Lib.hid (only_trans HG.out h1)
    obtain ⟨a0, a1, a2, a3, a4⟩ := cm_cells BA1.out
    have la := BA1.out.lt
    obtain ⟨b0, b1, b2, b3, b4⟩ := cm_cells BB1.out
    have lb := BB1.out.lt
    obtain ⟨c0, c1, c2, c3, c4⟩ := cm_cells BC1.out
    have lc := BC1.out.lt
    clear h1 BA BB BC HG
    go_wp2_with fail
    clear a0 a1 a2 a3 a4 la b0 b1 b2 b3 b4 lb c0 c1 c2 c3 c4 lc
    refine (H1.out _).mono ?_
    rintro e w2 ⟨rfl, h2⟩
    have BA2 := Lib.hid (BA1.out.grown h2 (by simp))
    have BB2 := Lib.hid (BB1.out.grown h2 (by simp))
    have BC2 := Lib.hid (BC1.out.grown h2 (by simp))
    have HG2 := Lib.hid (only_trans HG1.out h2)
    obtain ⟨a0, a1, a2, a3, a4⟩ := cm_cells BA2.out
    have la := BA2.out.lt
    obtain ⟨b0, b1, b2, b3, b4⟩ := cm_cells BB2.out
    have lb := BB2.out.lt
    obtain ⟨c0, c1, c2, c3, c4⟩ := cm_cells BC2.out
    have lc := BC2.out.lt
    clear h2 BA1 BB1 BC1 HG1
    go_wp2_with fail
    have BA3 := Lib.hid (BA2.out.alloc (.cells #[.int .u16 sp, .int .u8 bp, .int .i8 xp, .int .i8 yp, .int .i64 tp] 33))
    have BB3 := Lib.hid (BB2.out.alloc (.cells #[.int .u16 sp, .int .u8 bp, .int .i8 xp, .int .i8 yp, .int .i64 tp] 33))
    have BC3 := Lib.hid (BC2.out.alloc (.cells #[.int .u16 sp, .int .u8 bp, .int .i8 xp, .int .i8 yp, .int .i64 tp] 33))
    have BP3 := Lib.hid (Blk.new w2 33 #[.int .u16 sp, .int .u8 bp, .int .i8 xp, .int .i8 yp, .int .i64 tp])
    have HG3 := Lib.hid (only_trans HG2.out (World.grownBy_alloc w2 (.cells #[.int .u16 sp, .int .u8 bp, .int .i8 xp, .int .i8 yp, .int .i64 tp] 33) none))
    clear a0 a1 a2 a3 a4 la b0 b1 b2 b3 b4 lb c0 c1 c2 c3 c4 lc
    obtain ⟨w3, hw3⟩ : ∃ w3, w2.alloc (.cells #[.int .u16 sp, .int .u8 bp, .int .i8 xp, .int .i8 yp, .int .i64 tp] 33) = w3 := ⟨_, rfl⟩
    obtain ⟨kp, hkp⟩ : ∃ kp, w2.heap.size = kp := ⟨_, rfl⟩
    rw [hw3] at BA3 BB3 BC3 BP3 HG3
    rw [hw3]
    rw [hkp] at BP3
    rw [hkp]
    clear hw3 hkp BA2 BB2 BC2 HG2
    refine (H2.out _).mono ?_
    rintro e w4 ⟨rfl, h4⟩
    have BA4 := Lib.hid (BA3.out.grown h4 (by simp))
    have BB4 := Lib.hid (BB3.out.grown h4 (by simp))
    have BC4 := Lib.hid (BC3.out.grown h4 (by simp))
    have BP4 := Lib.hid (BP3.out.grown h4 (by simp))
    have HG4 := Lib.hid (only_trans HG3.out h4)
    obtain ⟨a0, a1, a2, a3, a4⟩ := cm_cells BA4.out
    have la := BA4.out.lt
    obtain ⟨b0, b1, b2, b3, b4⟩ := cm_cells BB4.out
    have lb := BB4.out.lt
    obtain ⟨c0, c1, c2, c3, c4⟩ := cm_cells BC4.out
    have lc := BC4.out.lt
    obtain ⟨p0, p1, p2, p3, p4⟩ := cm_cells BP4.out
    have lp := BP4.out.lt
    clear h4 BA3 BB3 BC3 BP3 HG3
    go_wp2_with fail
    have BA5 := Lib.hid (BA4.out.alloc (.cells #[.int .u16 sq, .int .u8 bq, .int .i8 xq, .int .i8 yq, .int .i64 tq] 33))
    have BB5 := Lib.hid (BB4.out.alloc (.cells #[.int .u16 sq, .int .u8 bq, .int .i8 xq, .int .i8 yq, .int .i64 tq] 33))
    have BC5 := Lib.hid (BC4.out.alloc (.cells #[.int .u16 sq, .int .u8 bq, .int .i8 xq, .int .i8 yq, .int .i64 tq] 33))
    have BP5 := Lib.hid (BP4.out.alloc (.cells #[.int .u16 sq, .int .u8 bq, .int .i8 xq, .int .i8 yq, .int .i64 tq] 33))
    have BQ5 := Lib.hid (Blk.new w4 33 #[.int .u16 sq, .int .u8 bq, .int .i8 xq, .int .i8 yq, .int .i64 tq])
    have HG5 := Lib.hid (only_trans HG4.out (World.grownBy_alloc w4 (.cells #[.int .u16 sq, .int .u8 bq, .int .i8 xq, .int .i8 yq, .int .i64 tq] 33) none))
    clear a0 a1 a2 a3 a4 la b0 b1 b2 b3 b4 lb c0 c1 c2 c3 c4 lc p0 p1 p2 p3 p4 lp
    obtain ⟨w5, hw5⟩ : ∃ w5, w4.alloc (.cells #[.int .u16 sq, .int .u8 bq, .int .i8 xq, .int .i8 yq, .int .i64 tq] 33) = w5 := ⟨_, rfl⟩
    obtain ⟨kq, hkq⟩ : ∃ kq, w4.heap.size = kq := ⟨_, rfl⟩
    rw [hw5] at BA5 BB5 BC5 BP5 BQ5 HG5
    rw [hw5]
    rw [hkq] at BQ5
    rw [hkq]
    clear hw5 hkq BA4 BB4 BC4 BP4 HG4
    refine (H3.out _).mono ?_
    rintro e w6 ⟨rfl, h6⟩
    have BA6 := Lib.hid (BA5.out.grown h6 (by simp))
    have BB6 := Lib.hid (BB5.out.grown h6 (by simp))
    have BC6 := Lib.hid (BC5.out.grown h6 (by simp))
    have BP6 := Lib.hid (BP5.out.grown h6 (by simp))
    have BQ6 := Lib.hid (BQ5.out.grown h6 (by simp))
    have HG6 := Lib.hid (only_trans HG5.out h6)
    obtain ⟨a0, a1, a2, a3, a4⟩ := cm_cells BA6.out
    have la := BA6.out.lt
    obtain ⟨b0, b1, b2, b3, b4⟩ := cm_cells BB6.out
    have lb := BB6.out.lt
    obtain ⟨c0, c1, c2, c3, c4⟩ := cm_cells BC6.out
    have lc := BC6.out.lt
    obtain ⟨p0, p1, p2, p3, p4⟩ := cm_cells BP6.out
    have lp := BP6.out.lt
    obtain ⟨q0, q1, q2, q3, q4⟩ := cm_cells BQ6.out
    have lq := BQ6.out.lt
    clear h6 BA5 BB5 BC5 BP5 BQ5 HG5
    go_wp2_with fail
    have BA7 := Lib.hid (BA6.out.alloc (.cells #[.int .u16 sr, .int .u8 br, .int .i8 xr, .int .i8 yr, .int .i64 tr] 33))
    have BB7 := Lib.hid (BB6.out.alloc (.cells #[.int .u16 sr, .int .u8 br, .int .i8 xr, .int .i8 yr, .int .i64 tr] 33))
    have BC7 := Lib.hid (BC6.out.alloc (.cells #[.int .u16 sr, .int .u8 br, .int .i8 xr, .int .i8 yr, .int .i64 tr] 33))
    have BP7 := Lib.hid (BP6.out.alloc (.cells #[.int .u16 sr, .int .u8 br, .int .i8 xr, .int .i8 yr, .int .i64 tr] 33))
    have BQ7 := Lib.hid (BQ6.out.alloc (.cells #[.int .u16 sr, .int .u8 br, .int .i8 xr, .int .i8 yr, .int .i64 tr] 33))
    have BR7 := Lib.hid (Blk.new w6 33 #[.int .u16 sr, .int .u8 br, .int .i8 xr, .int .i8 yr, .int .i64 tr])
    have HG7 := Lib.hid (only_trans HG6.out (World.grownBy_alloc w6 (.cells #[.int .u16 sr, .int .u8 br, .int .i8 xr, .int .i8 yr, .int .i64 tr] 33) none))
    clear a0 a1 a2 a3 a4 la b0 b1 b2 b3 b4 lb c0 c1 c2 c3 c4 lc p0 p1 p2 p3 p4 lp q0 q1 q2 q3 q4 lq
    obtain ⟨w7, hw7⟩ : ∃ w7, w6.alloc (.cells #[.int .u16 sr, .int .u8 br, .int .i8 xr, .int .i8 yr, .int .i64 tr] 33) = w7 := ⟨_, rfl⟩
    obtain ⟨kr, hkr⟩ : ∃ kr, w6.heap.size = kr := ⟨_, rfl⟩
    rw [hw7] at BA7 BB7 BC7 BP7 BQ7 BR7 HG7
    rw [hw7]
    rw [hkr] at BR7
    rw [hkr]
    clear hw7 hkr BA6 BB6 BC6 BP6 BQ6 HG6
    refine (H4.out _).mono ?_
    rintro e w8 ⟨rfl, h8⟩
    have BA8 := Lib.hid (BA7.out.grown h8 (by simp))
    have BB8 := Lib.hid (BB7.out.grown h8 (by simp))
    have BC8 := Lib.hid (BC7.out.grown h8 (by simp))
    have BP8 := Lib.hid (BP7.out.grown h8 (by simp))
    have BQ8 := Lib.hid (BQ7.out.grown h8 (by simp))
    have BR8 := Lib.hid (BR7.out.grown h8 (by simp))
    have HG8 := Lib.hid (only_trans HG7.out h8)
    obtain ⟨a0, a1, a2, a3, a4⟩ := cm_cells BA8.out
    have la := BA8.out.lt
    obtain ⟨b0, b1, b2, b3, b4⟩ := cm_cells BB8.out
    have lb := BB8.out.lt
    obtain ⟨c0, c1, c2, c3, c4⟩ := cm_cells BC8.out
    have lc := BC8.out.lt
    obtain ⟨p0, p1, p2, p3, p4⟩ := cm_cells BP8.out
    have lp := BP8.out.lt
    obtain ⟨q0, q1, q2, q3, q4⟩ := cm_cells BQ8.out
    have lq := BQ8.out.lt
    obtain ⟨r0, r1, r2, r3, r4⟩ := cm_cells BR8.out
    have lr := BR8.out.lt
    clear h8 BA7 BB7 BC7 BP7 BQ7 BR7 HG7
    go_wp2_with fail
    go_ret
    exact ⟨rfl, HKA.out ▸ below_grown (only_trans HG8.out (World.grownBy_alloc _ _ none))⟩
  all_goals
    clear hlaw
    go_enter Try.func5, Try.ntmps5
    go_wp2_with fail
    refine (HS.out _).mono ?_
    rintro e w1 ⟨rfl, h1⟩
    have BA1 := Lib.hid (BA.out.grown h1 (by simp))
    have BB1 := Lib.hid (BB.out.grown h1 (by simp))
    have BC1 := Lib.hid (BC.out.grown h1 (by simp))
    have HG1 := Lib.hid (only_trans HG.out h1)
    obtain ⟨a0, a1, a2, a3, a4⟩ := cm_cells BA1.out
    have la := BA1.out.lt
    obtain ⟨b0, b1, b2, b3, b4⟩ := cm_cells BB1.out
    have lb := BB1.out.lt
    obtain ⟨c0, c1, c2, c3, c4⟩ := cm_cells BC1.out
    have lc := BC1.out.lt
    clear h1 BA BB BC HG
    go_wp2_with fail
    clear a0 a1 a2 a3 a4 la b0 b1 b2 b3 b4 lb c0 c1 c2 c3 c4 lc
    refine (H1.out _).mono ?_
    rintro e w2 ⟨rfl, h2⟩
    have BA2 := Lib.hid (BA1.out.grown h2 (by simp))
    have BB2 := Lib.hid (BB1.out.grown h2 (by simp))
    have BC2 := Lib.hid (BC1.out.grown h2 (by simp))
    have HG2 := Lib.hid (only_trans HG1.out h2)
    obtain ⟨a0, a1, a2, a3, a4⟩ := cm_cells BA2.out
    have la := BA2.out.lt
    obtain ⟨b0, b1, b2, b3, b4⟩ := cm_cells BB2.out
    have lb := BB2.out.lt
    obtain ⟨c0, c1, c2, c3, c4⟩ := cm_cells BC2.out
    have lc := BC2.out.lt
    clear h2 BA1 BB1 BC1 HG1
    go_wp2_with fail
    have BA3 := Lib.hid (BA2.out.alloc (.cells #[.int .u16 sp, .int .u8 bp, .int .i8 xp, .int .i8 yp, .int .i64 tp] 33))
    have BB3 := Lib.hid (BB2.out.alloc (.cells #[.int .u16 sp, .int .u8 bp, .int .i8 xp, .int .i8 yp, .int .i64 tp] 33))
    have BC3 := Lib.hid (BC2.out.alloc (.cells #[.int .u16 sp, .int .u8 bp, .int .i8 xp, .int .i8 yp, .int .i64 tp] 33))
    have BP3 := Lib.hid (Blk.new w2 33 #[.int .u16 sp, .int .u8 bp, .int .i8 xp, .int .i8 yp, .int .i64 tp])
    have HG3 := Lib.hid (only_trans HG2.out (World.grownBy_alloc w2 (.cells #[.int .u16 sp, .int .u8 bp, .int .i8 xp, .int .i8 yp, .int .i64 tp] 33) none))
    clear a0 a1 a2 a3 a4 la b0 b1 b2 b3 b4 lb c0 c1 c2 c3 c4 lc
    obtain ⟨w3, hw3⟩ : ∃ w3, w2.alloc (.cells #[.int .u16 sp, .int .u8 bp, .int .i8 xp, .int .i8 yp, .int .i64 tp] 33) = w3 := ⟨_, rfl⟩
    obtain ⟨kp, hkp⟩ : ∃ kp, w2.heap.size = kp := ⟨_, rfl⟩
    rw [hw3] at BA3 BB3 BC3 BP3 HG3
    rw [hw3]
    rw [hkp] at BP3
    rw [hkp]
    clear hw3 hkp BA2 BB2 BC2 HG2
    refine (H2.out _).mono ?_
    rintro e w4 ⟨rfl, h4⟩
    have BA4 := Lib.hid (BA3.out.grown h4 (by simp))
    have BB4 := Lib.hid (BB3.out.grown h4 (by simp))
    have BC4 := Lib.hid (BC3.out.grown h4 (by simp))
    have BP4 := Lib.hid (BP3.out.grown h4 (by simp))
    have HG4 := Lib.hid (only_trans HG3.out h4)
    obtain ⟨a0, a1, a2, a3, a4⟩ := cm_cells BA4.out
    have la := BA4.out.lt
    obtain ⟨b0, b1, b2, b3, b4⟩ := cm_cells BB4.out
    have lb := BB4.out.lt
    obtain ⟨c0, c1, c2, c3, c4⟩ := cm_cells BC4.out
    have lc := BC4.out.lt
    obtain ⟨p0, p1, p2, p3, p4⟩ := cm_cells BP4.out
    have lp := BP4.out.lt
    clear h4 BA3 BB3 BC3 BP3 HG3
    go_wp2_with fail
    have BA5 := Lib.hid (BA4.out.alloc (.cells #[.int .u16 sq, .int .u8 bq, .int .i8 xq, .int .i8 yq, .int .i64 tq] 33))
    have BB5 := Lib.hid (BB4.out.alloc (.cells #[.int .u16 sq, .int .u8 bq, .int .i8 xq, .int .i8 yq, .int .i64 tq] 33))
    have BC5 := Lib.hid (BC4.out.alloc (.cells #[.int .u16 sq, .int .u8 bq, .int .i8 xq, .int .i8 yq, .int .i64 tq] 33))
    have BP5 := Lib.hid (BP4.out.alloc (.cells #[.int .u16 sq, .int .u8 bq, .int .i8 xq, .int .i8 yq, .int .i64 tq] 33))
    have BQ5 := Lib.hid (Blk.new w4 33 #[.int .u16 sq, .int .u8 bq, .int .i8 xq, .int .i8 yq, .int .i64 tq])
    have HG5 := Lib.hid (only_trans HG4.out (World.grownBy_alloc w4 (.cells #[.int .u16 sq, .int .u8 bq, .int .i8 xq, .int .i8 yq, .int .i64 tq] 33) none))
    clear a0 a1 a2 a3 a4 la b0 b1 b2 b3 b4 lb c0 c1 c2 c3 c4 lc p0 p1 p2 p3 p4 lp
    obtain ⟨w5, hw5⟩ : ∃ w5, w4.alloc (.cells #[.int .u16 sq, .int .u8 bq, .int .i8 xq, .int .i8 yq, .int .i64 tq] 33) = w5 := ⟨_, rfl⟩
    obtain ⟨kq, hkq⟩ : ∃ kq, w4.heap.size = kq := ⟨_, rfl⟩
    rw [hw5] at BA5 BB5 BC5 BP5 BQ5 HG5
    rw [hw5]
    rw [hkq] at BQ5
    rw [hkq]
    clear hw5 hkq BA4 BB4 BC4 BP4 HG4
    refine (H3.out _).mono ?_
    rintro e w6 ⟨rfl, h6⟩
    have BA6 := Lib.hid (BA5.out.grown h6 (by simp))
    have BB6 := Lib.hid (BB5.out.grown h6 (by simp))
    have BC6 := Lib.hid (BC5.out.grown h6 (by simp))
    have BP6 := Lib.hid (BP5.out.grown h6 (by simp))
    have BQ6 := Lib.hid (BQ5.out.grown h6 (by simp))
    have HG6 := Lib.hid (only_trans HG5.out h6)
    obtain ⟨a0, a1, a2, a3, a4⟩ := cm_cells BA6.out
    have la := BA6.out.lt
    obtain ⟨b0, b1, b2, b3, b4⟩ := cm_cells BB6.out
    have lb := BB6.out.lt
    obtain ⟨c0, c1, c2, c3, c4⟩ := cm_cells BC6.out
    have lc := BC6.out.lt
    obtain ⟨p0, p1, p2, p3, p4⟩ := cm_cells BP6.out
    have lp := BP6.out.lt
    obtain ⟨q0, q1, q2, q3, q4⟩ := cm_cells BQ6.out
    have lq := BQ6.out.lt
    clear h6 BA5 BB5 BC5 BP5 BQ5 HG5
    go_wp2_with fail
    have BA7 := Lib.hid (BA6.out.alloc (.cells #[.int .u16 sr, .int .u8 br, .int .i8 xr, .int .i8 yr, .int .i64 tr] 33))
    have BB7 := Lib.hid (BB6.out.alloc (.cells #[.int .u16 sr, .int .u8 br, .int .i8 xr, .int .i8 yr, .int .i64 tr] 33))
    have BC7 := Lib.hid (BC6.out.alloc (.cells #[.int .u16 sr, .int .u8 br, .int .i8 xr, .int .i8 yr, .int .i64 tr] 33))
    have BP7 := Lib.hid (BP6.out.alloc (.cells #[.int .u16 sr, .int .u8 br, .int .i8 xr, .int .i8 yr, .int .i64 tr] 33))
    have BQ7 := Lib.hid (BQ6.out.alloc (.cells #[.int .u16 sr, .int .u8 br, .int .i8 xr, .int .i8 yr, .int .i64 tr] 33))
    have BR7 := Lib.hid (Blk.new w6 33 #[.int .u16 sr, .int .u8 br, .int .i8 xr, .int .i8 yr, .int .i64 tr])
    have HG7 := Lib.hid (only_trans HG6.out (World.grownBy_alloc w6 (.cells #[.int .u16 sr, .int .u8 br, .int .i8 xr, .int .i8 yr, .int .i64 tr] 33) none))
    clear a0 a1 a2 a3 a4 la b0 b1 b2 b3 b4 lb c0 c1 c2 c3 c4 lc p0 p1 p2 p3 p4 lp q0 q1 q2 q3 q4 lq
    obtain ⟨w7, hw7⟩ : ∃ w7, w6.alloc (.cells #[.int .u16 sr, .int .u8 br, .int .i8 xr, .int .i8 yr, .int .i64 tr] 33) = w7 := ⟨_, rfl⟩
    obtain ⟨kr, hkr⟩ : ∃ kr, w6.heap.size = kr := ⟨_, rfl⟩
    rw [hw7] at BA7 BB7 BC7 BP7 BQ7 BR7 HG7
    rw [hw7]
    rw [hkr] at BR7
    rw [hkr]
    clear hw7 hkr BA6 BB6 BC6 BP6 BQ6 HG6
    refine (H4.out _).mono ?_
    rintro e w8 ⟨rfl, h8⟩
    have BA8 := Lib.hid (BA7.out.grown h8 (by simp))
    have BB8 := Lib.hid (BB7.out.grown h8 (by simp))
    have BC8 := Lib.hid (BC7.out.grown h8 (by simp))
    have BP8 := Lib.hid (BP7.out.grown h8 (by simp))
    have BQ8 := Lib.hid (BQ7.out.grown h8 (by simp))
    have BR8 := Lib.hid (BR7.out.grown h8 (by simp))
    have HG8 := Lib.hid (only_trans HG7.out h8)
    obtain ⟨a0, a1, a2, a3, a4⟩ := cm_cells BA8.out
    have la := BA8.out.lt
    obtain ⟨b0, b1, b2, b3, b4⟩ := cm_cells BB8.out
    have lb := BB8.out.lt
    obtain ⟨c0, c1, c2, c3, c4⟩ := cm_cells BC8.out
    have lc := BC8.out.lt
    obtain ⟨p0, p1, p2, p3, p4⟩ := cm_cells BP8.out
    have lp := BP8.out.lt
    obtain ⟨q0, q1, q2, q3, q4⟩ := cm_cells BQ8.out
    have lq := BQ8.out.lt
    obtain ⟨r0, r1, r2, r3, r4⟩ := cm_cells BR8.out
    have lr := BR8.out.lt
    clear h8 BA7 BB7 BC7 BP7 BQ7 BR7 HG7
    go_wp2_with fail
    go_ret
    exact ⟨rfl, HKA.out ▸ below_grown (only_trans HG8.out (World.grownBy_alloc _ _ none))⟩
end Go.Proofs.Ytehlehfljgphkaa
