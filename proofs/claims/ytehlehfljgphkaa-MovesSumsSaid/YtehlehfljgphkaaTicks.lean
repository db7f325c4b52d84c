/-
  A player of whom each tick is counted alike (the law's own function ticks), walked.
-/
import Derived.Test.YtehlehfljgphkaaOnce
namespace Go.Proofs.Ytehlehfljgphkaa
open Go.RowKit

def tkX (x dx : Int) : Int := wrap64 (x + wrap64 dx)
def tkS (s bt dx : Int) : Int := bits .and .i64 (wrap64 (wrap64 (wrap64 (s * 31) + wrap64 dx) + wrap64 (7 * wrap64 bt))) 4294967295
/-- One tick. -/
def tick (c : Cmd) (p : Pl) : Pl := ⟨tkX p.x c.dx, tkX p.y c.dy, p.h, tkS p.s c.btn c.dx⟩
/-- n of them. -/
def tks (c : Cmd) : Nat → Pl → Pl
  | 0, p => p
  | n + 1, p => tick c (tks c n p)
def ticksP (p : Pl) (c : Cmd) : Pl := tks c c.ticks.toNat p
theorem tks_add (c : Cmd) (a b : Nat) (p : Pl) : tks c (a + b) p = tks c a (tks c b p) := by
  induction a with
  | zero => rw [Nat.zero_add]; rfl
  | succ a ih => rw [Nat.add_right_comm]; show tick c _ = tick c _; rw [ih]

structure Tk (w wr : World) (k : Nat) (c : Cmd) (p : Pl) : Prop where
  grown : w.grownBy wr none
  pl : Blk wr (k + 1) 45 (plA p.x p.y p.h p.s)
  cmd : Blk wr (k + 1 + 1) 33 #[.int .u16 c.seq, .int .u8 c.btn, .int .i8 c.dx, .int .i8 c.dy, .int .i64 c.ticks]
  rs : Blk wr (k + 1 + 1 + 1) 45 (plA 0 0 0 0)
theorem tk_store {w : World} {g : Nat} {x y h s : Int} (hb : Blk w g 45 (plA x y h s)) (x' y' s' : Int) : Blk (((w.setCell ⟨g, 10, none⟩ (.int .i64 s')).setCell ⟨g, 1, none⟩ (.int .i64 x')).setCell ⟨g, 2, none⟩ (.int .i64 y')) g 45 (plA x' y' h s') ∧ w.grownBy (((w.setCell ⟨g, 10, none⟩ (.int .i64 s')).setCell ⟨g, 1, none⟩ (.int .i64 x')).setCell ⟨g, 2, none⟩ (.int .i64 y')) (some g) :=
  ⟨(((hb.put 10 _).put 1 _).put 2 _).of_ (by simp), only_put (only_put (World.grownBy_setCell' w g 10 _) 1 _) 2 _⟩

set_option maxRecDepth 100000 in
set_option maxHeartbeats 4000000 in
theorem ticks_calls (m x y h s sq bt dx dy t : Int) (ht : 0 ≤ t ∧ t ≤ 1000) (w : World) :
    Calls Try.prog 23 #[.agg #[.int .i64 m, .int .i64 0, .int .i64 0, .slice none 0 0, .slice none 0 0], .agg (plA x y h s), .agg #[.int .u16 sq, .int .u8 bt, .int .i8 dx, .int .i8 dy, .int .i64 t]] w fun e w' => e = .returned (ticksP ⟨x, y, h, s⟩ ⟨sq, bt, dx, dy, t⟩).val ∧ w.grownBy w' none := by
  obtain ⟨n, rfl⟩ := Int.eq_ofNat_of_zero_le ht.1
  have hn : n ≤ 1000 := by omega
  clear ht
  go_enter Try.func23, Try.ntmps23
  go_wp2_with fail
  have hT : Tk w ((((w.alloc (.cells #[.int .i64 m, .int .i64 0, .int .i64 0, .slice none 0 0, .slice none 0 0] 50)).alloc (.cells (plA x y h s) 45)).alloc (.cells #[.int .u16 sq, .int .u8 bt, .int .i8 dx, .int .i8 dy, .int .i64 n] 33)).alloc (.cells (plA 0 0 0 0) 45)) w.heap.size ⟨sq, bt, dx, dy, n⟩ ⟨x, y, h, s⟩ := by
    refine ⟨by repeat (first | exact World.grownBy.refl _ _ | refine only_trans ?_ (World.grownBy_alloc _ _ none)), ?_, ?_, ?_⟩
    · have := ((Blk.new (w.alloc (.cells #[.int .i64 m, .int .i64 0, .int .i64 0, .slice none 0 0, .slice none 0 0] 50)) 45 (plA x y h s)).alloc (.cells #[.int .u16 sq, .int .u8 bt, .int .i8 dx, .int .i8 dy, .int .i64 n] 33)).alloc (.cells (plA 0 0 0 0) 45)
      rwa [World.size_alloc] at this
    · have := (Blk.new ((w.alloc (.cells #[.int .i64 m, .int .i64 0, .int .i64 0, .slice none 0 0, .slice none 0 0] 50)).alloc (.cells (plA x y h s) 45)) 33 #[.int .u16 sq, .int .u8 bt, .int .i8 dx, .int .i8 dy, .int .i64 n]).alloc (.cells (plA 0 0 0 0) 45)
      rwa [World.size_alloc, World.size_alloc] at this
    · have := Blk.new (((w.alloc (.cells #[.int .i64 m, .int .i64 0, .int .i64 0, .slice none 0 0, .slice none 0 0] 50)).alloc (.cells (plA x y h s) 45)).alloc (.cells #[.int .u16 sq, .int .u8 bt, .int .i8 dx, .int .i8 dy, .int .i64 n] 33)) 45 (plA 0 0 0 0)
      rwa [World.size_alloc, World.size_alloc, World.size_alloc] at this
  obtain ⟨w2, hw2⟩ : ∃ w2, (((w.alloc (.cells #[.int .i64 m, .int .i64 0, .int .i64 0, .slice none 0 0, .slice none 0 0] 50)).alloc (.cells (plA x y h s) 45)).alloc (.cells #[.int .u16 sq, .int .u8 bt, .int .i8 dx, .int .i8 dy, .int .i64 n] 33)).alloc (.cells (plA 0 0 0 0) 45) = w2 := ⟨_, rfl⟩
  obtain ⟨k, hk⟩ : ∃ k, w.heap.size = k := ⟨_, rfl⟩
  rw [hw2, hk] at hT
  rw [hw2, hk]
  have HT := Lib.hid hT
  have HKW := Lib.hid hk
  clear hw2 hk hT
  go_loopw [7] (fun i wr => ∃ j : Nat, j ≤ n ∧ i = .int .i64 j ∧ Hid (Tk w wr k ⟨sq, bt, dx, dy, n⟩ (tks ⟨sq, bt, dx, dy, n⟩ j ⟨x, y, h, s⟩))) (fun i _ => n - (intOf i).toNat)
  case atStart => exact ⟨0, by omega, rfl, HT⟩
  case round =>
    obtain ⟨j, hj, rfl, HJ⟩ := hrel
    obtain ⟨p, hp⟩ : ∃ p, tks ⟨sq, bt, dx, dy, n⟩ j ⟨x, y, h, s⟩ = p := ⟨_, rfl⟩
    rw [hp] at HJ
    have HP := Lib.hid hp
    clear hp
    obtain ⟨px, py, ph, ps⟩ := p
    obtain ⟨d0, d1, d2, d3, d4, d5, d6, d7, d8, d9, d10, d11, d12, d13, d14⟩ := pl_cells HJ.out.pl
    obtain ⟨c0, c1, c2, c3, c4⟩ := cm_cells HJ.out.cmd
    by_cases hlt : j < n
    · have e1 := HJ.out.pl.free 1
      have e2 := HJ.out.pl.free 2
      have e10 := HJ.out.pl.free 10
      go_wp2_with fail
      have HS := Lib.hid (tk_store HJ.out.pl (tkX px dx) (tkX py dy) (tkS ps bt dx))
      go_roundw
      case rel => exact ⟨j + 1, by omega, by go_num, Lib.hid (by
        have hq : tks ⟨sq, bt, dx, dy, n⟩ (j + 1) ⟨x, y, h, s⟩ = ⟨tkX px dx, tkX py dy, ph, tkS ps bt dx⟩ := by
          show tick _ (tks _ j _) = _
          rw [HP.out]; rfl
        have hgw := HKW.out
        rw [hq]
        exact ⟨grown_own HJ.out.grown HS.out.2 (by omega), HS.out.1, HJ.out.cmd.grown HS.out.2 (fun e => by injection e with e; omega), HJ.out.rs.grown HS.out.2 (fun e => by injection e with e; omega)⟩)⟩
      case measure => simp [intOf]; omega
    · obtain rfl : j = n := by omega
      obtain ⟨r0, r1, r2, r3, r4, r5, r6, r7, r8, r9, r10, r11, r12, r13, r14⟩ := pl_cells HJ.out.rs
      obtain ⟨e0, e1, e2, e3, e4, e5, e6, e7, e8, e9, e10, e11, e12, e13, e14⟩ := pl_free HJ.out.rs
      go_wp2_with fail
      have HS := pl_store HJ.out.rs px py ph ps
      obtain ⟨q0, q1, q2, q3, q4, q5, q6, q7, q8, q9, q10, q11, q12, q13, q14⟩ := pl_cells HS.1
      refine bodyPost_ret (v := .agg (plA px py ph ps)) (by simp [results, Try.results23, go_sem, q0, q1, q2, q3, q4, q5, q6, q7, q8, q9, q10, q11, q12, q13, q14]) rfl ⟨?_, ?_⟩
      · have := HP.out
        show _ = Ending.returned (tks ⟨sq, bt, dx, dy, j⟩ (Int.toNat j) ⟨x, y, h, s⟩).val
        rw [Int.toNat_natCast, this]
      · have hgw := HKW.out
        exact grown_own HJ.out.grown HS.2 (by omega)
set_option maxRecDepth 100000 in
set_option maxHeartbeats 4000000 in
/-- **Replay**, of who counts each tick alike. -/
theorem replay23_calls (m : Int) (g : Nat) (l : List Cmd) (sm : Bool) (last : Int) (v : Value) (x y h s : Int) (hl : l.length ≤ 1000000) (w : World) (hM : Mv w g l sm last v) (hall : ∀ c ∈ l, rightB c = true) :
    Calls Try.prog 19 #[.pointer (some ⟨g, 0, none⟩), .agg #[.int .i64 m, .int .i64 0, .int .i64 0, .slice none 0 0, .slice none 0 0], .agg #[.int .i64 0, .int .i64 x, .int .i64 y, .int .i64 0, .int .i64 0, .int .i64 0, .int .i64 0, .bool false, .int .i64 h, .int .i64 0, .int .i64 s, .int .i64 0, .int .i64 0, .int .i64 0, .int .i64 0],   .func (.func 23) #[] #[]] w fun e w' => e = .returned (l.foldl ticksP ⟨x, y, h, s⟩).val ∧ w.grownBy w' none := by
  obtain ⟨A, c, rfl⟩ := own_slice hM.row
  have c0 := hM.blk.cell 0
  simp only [List.getElem?_toArray, List.getElem?_cons_zero] at c0
  have hg := hM.blk.lt
  have hg1 : g < w.heap.size + 1 := by omega
  have hg2 : g < w.heap.size + 1 + 1 := by omega
  have HM := Lib.hid hM
  have HA := Lib.hid hall
  clear hM hall
  obtain ⟨n, hn⟩ : ∃ n, l.length = n := ⟨_, rfl⟩
  rw [hn] at c0 hl HM
  have HN := Lib.hid hn
  clear hn
  go_enter Try.func19, Try.ntmps19
  go_wp2_with fail
  obtain ⟨w2, hw2⟩ : ∃ w2, ((w.alloc (.cells #[.int .i64 m, .int .i64 0, .int .i64 0, .slice none 0 0, .slice none 0 0] 50)).alloc (.cells (plA x y h s) 45)).alloc (.cells (plA 0 0 0 0) 45) = w2 := ⟨_, rfl⟩
  have HR2 : Hid (Rep w w2 w.heap.size m ⟨x, y, h, s⟩) := Lib.hid (by
    rw [← hw2]
    refine ⟨by repeat (first | exact World.grownBy.refl _ _ | refine only_trans ?_ (World.grownBy_alloc _ _ none)), ((Blk.new w 50 _).alloc _).alloc _, ?_, ?_⟩
    · have := (Blk.new (w.alloc (.cells #[.int .i64 m, .int .i64 0, .int .i64 0, .slice none 0 0, .slice none 0 0] 50)) 45 (plA x y h s)).alloc (.cells (plA 0 0 0 0) 45)
      rwa [World.size_alloc] at this
    · have := Blk.new ((w.alloc (.cells #[.int .i64 m, .int .i64 0, .int .i64 0, .slice none 0 0, .slice none 0 0] 50)).alloc (.cells (plA x y h s) 45)) 45 (plA 0 0 0 0)
      rwa [World.size_alloc, World.size_alloc] at this)
  rw [hw2]
  clear hw2
  obtain ⟨gm, hgm⟩ : ∃ gm, w.heap.size = gm := ⟨_, rfl⟩
  rw [hgm] at HR2
  rw [hgm]
  have HGM := Lib.hid hgm
  clear hgm c0 hg hg1 hg2
  go_loopw [16] (fun i wr => ∃ k : Nat, k ≤ n ∧ i = .int .i64 k ∧ Hid (Rep w wr gm m ((l.take k).foldl ticksP ⟨x, y, h, s⟩))) (fun i _ => n - (intOf i).toNat)
  case atStart => exact ⟨0, by omega, rfl, HR2⟩
  case round =>
    obtain ⟨k, hk, rfl, HR⟩ := hrel
    obtain ⟨p, hp⟩ : ∃ p, (l.take k).foldl ticksP ⟨x, y, h, s⟩ = p := ⟨_, rfl⟩
    rw [hp] at HR
    have HP := Lib.hid hp
    clear hp
    obtain ⟨px, py, ph, ps⟩ := p
    have hgs := HR.out.rs.lt
    have hgs1 : gm < wr.heap.size := by omega
    have hgs2 : gm + 1 < wr.heap.size := by omega
    by_cases hlt : k < n
    · have hrow := (HM.out.grown HR.out.grown).row
      rw [HN.out] at hrow
      obtain ⟨b, off, c, rfl, hb, hx, hr⟩ := (own_rg Cmd.cl_len (by decide) hrow).at_ Cmd.cl_len hlt
      clear hrow
      obtain ⟨sq, bt, dx, dy, t⟩ := c
      obtain ⟨c0, c1, c2, c3, c4⟩ := cmd_cells hr
      obtain ⟨m0, m1, m2, m3, m4⟩ := map_cells HR.out.mp
      obtain ⟨d0, d1, d2, d3, d4, d5, d6, d7, d8, d9, d10, d11, d12, d13, d14⟩ := pl_cells HR.out.pl
      have HX := Lib.hid hx
      clear hr hx
      go_wp2_with fail
      clear m0 m1 m2 m3 m4 d0 d1 d2 d3 d4 d5 d6 d7 d8 d9 d10 d11 d12 d13 d14 c0 c1 c2 c3 c4
      refine (ticks_calls m px py ph ps sq bt dx dy t (by have := rightB_b (HA.out _ (List.mem_of_getElem? HX.out)); dsimp only at this; omega) _).mono ?_
      rintro e w3 ⟨rfl, h3⟩
      have hG3 := only_trans (World.grownBy_alloc wr _ none) h3
      have hb3 := HR.out.pl.grown hG3 (by simp)
      obtain ⟨d0, d1, d2, d3, d4, d5, d6, d7, d8, d9, d10, d11, d12, d13, d14⟩ := pl_cells hb3
      obtain ⟨e0, e1, e2, e3, e4, e5, e6, e7, e8, e9, e10, e11, e12, e13, e14⟩ := pl_free hb3
      have HG3 := Lib.hid hG3
      obtain ⟨q, hq⟩ : ∃ q, ticksP ⟨px, py, ph, ps⟩ ⟨sq, bt, dx, dy, t⟩ = q := ⟨_, rfl⟩
      rw [hq]
      have HQ := Lib.hid hq
      obtain ⟨qx, qy, qh, qs⟩ := q
      have HS3 := Lib.hid (pl_store hb3 qx qy qh qs)
      clear h3 hG3 hb3 hq
      dsimp only [Pl.val]
      go_wp2_with fail
      clear d0 d1 d2 d3 d4 d5 d6 d7 d8 d9 d10 d11 d12 d13 d14 e0 e1 e2 e3 e4 e5 e6 e7 e8 e9 e10 e11 e12 e13 e14
      go_roundw
      case rel => exact ⟨k + 1, by omega, by go_num, Lib.hid (by
        have hq2 : (l.take (k + 1)).foldl ticksP ⟨x, y, h, s⟩ = ⟨qx, qy, qh, qs⟩ := by
          have := HX.out
          rw [List.take_add_one, this, List.foldl_append, HP.out]
          exact HQ.out
        rw [hq2]
        have hgw := HGM.out
        exact ⟨grown_own (only_trans HR.out.grown HG3.out) HS3.out.2 (by omega), (HR.out.mp.grown HG3.out (by simp)).grown HS3.out.2 (by simp), HS3.out.1, (HR.out.rs.grown HG3.out (by simp)).grown HS3.out.2 (by simp)⟩)⟩
      case measure => simp [intOf]; omega
    · obtain rfl : k = n := by omega
      obtain ⟨d0, d1, d2, d3, d4, d5, d6, d7, d8, d9, d10, d11, d12, d13, d14⟩ := pl_cells HR.out.pl
      obtain ⟨r0, r1, r2, r3, r4, r5, r6, r7, r8, r9, r10, r11, r12, r13, r14⟩ := pl_cells HR.out.rs
      obtain ⟨e0, e1, e2, e3, e4, e5, e6, e7, e8, e9, e10, e11, e12, e13, e14⟩ := pl_free HR.out.rs
      go_wp2_with fail
      have HS := pl_store HR.out.rs px py ph ps
      obtain ⟨q0, q1, q2, q3, q4, q5, q6, q7, q8, q9, q10, q11, q12, q13, q14⟩ := pl_cells HS.1
      refine bodyPost_ret (v := .agg (plA px py ph ps)) (by simp [results, Try.results19, go_sem, q0, q1, q2, q3, q4, q5, q6, q7, q8, q9, q10, q11, q12, q13, q14]) rfl ⟨?_, ?_⟩
      · have := HP.out
        rw [List.take_of_length_le (by rw [HN.out]; omega)] at this
        rw [this]
      · have hgw := HGM.out
        exact grown_own HR.out.grown HS.2 (by omega)
end Go.Proofs.Ytehlehfljgphkaa
