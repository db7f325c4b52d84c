/-
  What a command makes of a player (both ways), and Replay over it.
-/
import Derived.Test.YtehlehfljgphkaaAdd
namespace Go.Proofs.Ytehlehfljgphkaa
open Go.RowKit

/-- A player of whom just these four have turned. -/
structure Pl where
  x : Int
  y : Int
  h : Int
  s : Int
abbrev plA (x y h s : Int) : Array Value := #[.int .i64 0, .int .i64 x, .int .i64 y, .int .i64 0, .int .i64 0, .int .i64 0, .int .i64 0, .bool false, .int .i64 h, .int .i64 0, .int .i64 s, .int .i64 0, .int .i64 0, .int .i64 0, .int .i64 0]
abbrev mapV (m : Int) : Value := .agg #[.int .i64 m, .int .i64 0, .int .i64 0, .slice none 0 0, .slice none 0 0]

def stX (x dx t : Int) : Int := wrap64 (x + wrap64 (wrap64 dx * t))
def stH (h m : Int) : Int := wrap64 (h + m)
def stS (s sq t : Int) : Int := bits .and .i64 (wrap64 (wrap64 (wrap64 (s * 31) + wrap64 (wrap64 sq * 8)) + t)) 4294967295
/-- What a command makes of a player. -/
def stepP (m : Int) (p : Pl) (c : Cmd) : Pl := ⟨stX p.x c.dx c.ticks, stX p.y c.dy c.ticks, stH p.h m, stS p.s c.seq c.ticks⟩
abbrev Pl.val (p : Pl) : Value := .agg (plA p.x p.y p.h p.s)

set_option maxRecDepth 100000 in
set_option maxHeartbeats 2000000 in
theorem step_calls (m x y h s sq bt dx dy t : Int) (w : World) :
    Calls Try.prog 18 #[.agg #[.int .i64 m, .int .i64 0, .int .i64 0, .slice none 0 0, .slice none 0 0], .agg #[.int .i64 0, .int .i64 x, .int .i64 y, .int .i64 0, .int .i64 0, .int .i64 0, .int .i64 0, .bool false, .int .i64 h, .int .i64 0, .int .i64 s, .int .i64 0, .int .i64 0, .int .i64 0, .int .i64 0], .agg #[.int .u16 sq, .int .u8 bt, .int .i8 dx, .int .i8 dy, .int .i64 t]] w fun e w' => e = .returned (.agg (plA (stX x dx t) (stX y dy t) (stH h m) (stS s sq t))) ∧ w.grownBy w' none := by
  go_enter Try.func18, Try.ntmps18
  go_wp2_with fail
  exact bodyPost_ret (v := .agg (plA (stX x dx t) (stX y dy t) (stH h m) (stS s sq t))) (by simp [results, Try.results18, go_sem]; simp [stX, stH, stS]) rfl ⟨rfl, by repeat (first | exact World.grownBy.refl _ _ | refine only_trans ?_ (World.grownBy_alloc _ _ none))⟩

/-- F makes of a player and a command what f says. -/
def Does (F : Nat) (m : Int) (f : Pl → Cmd → Pl) : Prop := ∀ (x y h s sq bt dx dy t : Int) (w : World),
    Calls Try.prog F #[.agg #[.int .i64 m, .int .i64 0, .int .i64 0, .slice none 0 0, .slice none 0 0], .agg #[.int .i64 0, .int .i64 x, .int .i64 y, .int .i64 0, .int .i64 0, .int .i64 0, .int .i64 0, .bool false, .int .i64 h, .int .i64 0, .int .i64 s, .int .i64 0, .int .i64 0, .int .i64 0, .int .i64 0], .agg #[.int .u16 sq, .int .u8 bt, .int .i8 dx, .int .i8 dy, .int .i64 t]] w fun e w' => e = .returned (f ⟨x, y, h, s⟩ ⟨sq, bt, dx, dy, t⟩).val ∧ w.grownBy w' none
theorem step_does (m : Int) : Does 18 m (stepP m) := fun x y h s sq bt dx dy t w => step_calls m x y h s sq bt dx dy t w

theorem pl_cells {w : World} {g : Nat} {x y h s : Int} (hb : Blk w g 45 (plA x y h s)) : w.cell? ⟨g, 0, none⟩ = some (.int .i64 0) ∧ w.cell? ⟨g, 1, none⟩ = some (.int .i64 x) ∧ w.cell? ⟨g, 2, none⟩ = some (.int .i64 y) ∧ w.cell? ⟨g, 3, none⟩ = some (.int .i64 0) ∧ w.cell? ⟨g, 4, none⟩ = some (.int .i64 0) ∧ w.cell? ⟨g, 5, none⟩ = some (.int .i64 0) ∧ w.cell? ⟨g, 6, none⟩ = some (.int .i64 0) ∧ w.cell? ⟨g, 7, none⟩ = some (.bool false) ∧ w.cell? ⟨g, 8, none⟩ = some (.int .i64 h) ∧ w.cell? ⟨g, 9, none⟩ = some (.int .i64 0) ∧ w.cell? ⟨g, 10, none⟩ = some (.int .i64 s) ∧ w.cell? ⟨g, 11, none⟩ = some (.int .i64 0) ∧ w.cell? ⟨g, 12, none⟩ = some (.int .i64 0) ∧ w.cell? ⟨g, 13, none⟩ = some (.int .i64 0) ∧ w.cell? ⟨g, 14, none⟩ = some (.int .i64 0) :=
  ⟨hb.cell 0, hb.cell 1, hb.cell 2, hb.cell 3, hb.cell 4, hb.cell 5, hb.cell 6, hb.cell 7, hb.cell 8, hb.cell 9, hb.cell 10, hb.cell 11, hb.cell 12, hb.cell 13, hb.cell 14⟩
theorem pl_free {w : World} {g : Nat} {x y h s : Int} (hb : Blk w g 45 (plA x y h s)) : w.frozen? ⟨g, 0, none⟩ = false ∧ w.frozen? ⟨g, 1, none⟩ = false ∧ w.frozen? ⟨g, 2, none⟩ = false ∧ w.frozen? ⟨g, 3, none⟩ = false ∧ w.frozen? ⟨g, 4, none⟩ = false ∧ w.frozen? ⟨g, 5, none⟩ = false ∧ w.frozen? ⟨g, 6, none⟩ = false ∧ w.frozen? ⟨g, 7, none⟩ = false ∧ w.frozen? ⟨g, 8, none⟩ = false ∧ w.frozen? ⟨g, 9, none⟩ = false ∧ w.frozen? ⟨g, 10, none⟩ = false ∧ w.frozen? ⟨g, 11, none⟩ = false ∧ w.frozen? ⟨g, 12, none⟩ = false ∧ w.frozen? ⟨g, 13, none⟩ = false ∧ w.frozen? ⟨g, 14, none⟩ = false :=
  ⟨hb.free 0, hb.free 1, hb.free 2, hb.free 3, hb.free 4, hb.free 5, hb.free 6, hb.free 7, hb.free 8, hb.free 9, hb.free 10, hb.free 11, hb.free 12, hb.free 13, hb.free 14⟩
theorem map_cells {w : World} {g : Nat} {m : Int} (hb : Blk w g 50 #[.int .i64 m, .int .i64 0, .int .i64 0, .slice none 0 0, .slice none 0 0]) : w.cell? ⟨g, 0, none⟩ = some (.int .i64 m) ∧ w.cell? ⟨g, 1, none⟩ = some (.int .i64 0) ∧ w.cell? ⟨g, 2, none⟩ = some (.int .i64 0) ∧ w.cell? ⟨g, 3, none⟩ = some (.slice none 0 0) ∧ w.cell? ⟨g, 4, none⟩ = some (.slice none 0 0) :=
  ⟨hb.cell 0, hb.cell 1, hb.cell 2, hb.cell 3, hb.cell 4⟩

theorem pl_store {w : World} {g : Nat} {x y h s : Int} (hb : Blk w g 45 (plA x y h s)) (x' y' h' s' : Int) : Blk (((((((((((((((w.setCell ⟨g, 0, none⟩ (.int .i64 0)).setCell ⟨g, 1, none⟩ (.int .i64 x')).setCell ⟨g, 2, none⟩ (.int .i64 y')).setCell ⟨g, 3, none⟩ (.int .i64 0)).setCell ⟨g, 4, none⟩ (.int .i64 0)).setCell ⟨g, 5, none⟩ (.int .i64 0)).setCell ⟨g, 6, none⟩ (.int .i64 0)).setCell ⟨g, 7, none⟩ (.bool false)).setCell ⟨g, 8, none⟩ (.int .i64 h')).setCell ⟨g, 9, none⟩ (.int .i64 0)).setCell ⟨g, 10, none⟩ (.int .i64 s')).setCell ⟨g, 11, none⟩ (.int .i64 0)).setCell ⟨g, 12, none⟩ (.int .i64 0)).setCell ⟨g, 13, none⟩ (.int .i64 0)).setCell ⟨g, 14, none⟩ (.int .i64 0)) g 45 (plA x' y' h' s') ∧ w.grownBy (((((((((((((((w.setCell ⟨g, 0, none⟩ (.int .i64 0)).setCell ⟨g, 1, none⟩ (.int .i64 x')).setCell ⟨g, 2, none⟩ (.int .i64 y')).setCell ⟨g, 3, none⟩ (.int .i64 0)).setCell ⟨g, 4, none⟩ (.int .i64 0)).setCell ⟨g, 5, none⟩ (.int .i64 0)).setCell ⟨g, 6, none⟩ (.int .i64 0)).setCell ⟨g, 7, none⟩ (.bool false)).setCell ⟨g, 8, none⟩ (.int .i64 h')).setCell ⟨g, 9, none⟩ (.int .i64 0)).setCell ⟨g, 10, none⟩ (.int .i64 s')).setCell ⟨g, 11, none⟩ (.int .i64 0)).setCell ⟨g, 12, none⟩ (.int .i64 0)).setCell ⟨g, 13, none⟩ (.int .i64 0)).setCell ⟨g, 14, none⟩ (.int .i64 0)) (some g) :=
  ⟨(((((((((((((((hb.put 0 _).put 1 _).put 2 _).put 3 _).put 4 _).put 5 _).put 6 _).put 7 _).put 8 _).put 9 _).put 10 _).put 11 _).put 12 _).put 13 _).put 14 _).of_ (by simp), (only_put (only_put (only_put (only_put (only_put (only_put (only_put (only_put (only_put (only_put (only_put (only_put (only_put (only_put (World.grownBy_setCell' w g 0 _) 1 _) 2 _) 3 _) 4 _) 5 _) 6 _) 7 _) 8 _) 9 _) 10 _) 11 _) 12 _) 13 _) 14 _)⟩
theorem grown_own {a b c : World} {k : Nat} (h : a.grownBy b none) (j : b.grownBy c (some k)) (hk : a.heap.size ≤ k) : a.grownBy c none := grown_over h j hk
structure Rep (w wr : World) (gm : Nat) (m : Int) (p : Pl) : Prop where
  grown : w.grownBy wr none
  mp : Blk wr gm 50 #[.int .i64 m, .int .i64 0, .int .i64 0, .slice none 0 0, .slice none 0 0]
  pl : Blk wr (gm + 1) 45 (plA p.x p.y p.h p.s)
  rs : Blk wr (gm + 1 + 1) 45 (plA 0 0 0 0)

set_option maxRecDepth 100000 in
set_option maxHeartbeats 4000000 in
/-- **Replay.** -/
theorem replay18_calls (m : Int) (f : Pl → Cmd → Pl) (hF : Does 18 m f) (g : Nat) (l : List Cmd) (sm : Bool) (last : Int) (v : Value) (x y h s : Int) (hl : l.length ≤ 1000000) (w : World) (hM : Mv w g l sm last v) :
    Calls Try.prog 19 #[.pointer (some ⟨g, 0, none⟩), .agg #[.int .i64 m, .int .i64 0, .int .i64 0, .slice none 0 0, .slice none 0 0], .agg #[.int .i64 0, .int .i64 x, .int .i64 y, .int .i64 0, .int .i64 0, .int .i64 0, .int .i64 0, .bool false, .int .i64 h, .int .i64 0, .int .i64 s, .int .i64 0, .int .i64 0, .int .i64 0, .int .i64 0],   .func (.func 18) #[] #[]] w fun e w' => e = .returned (l.foldl f ⟨x, y, h, s⟩).val ∧ w.grownBy w' none := by
  obtain ⟨A, c, rfl⟩ := own_slice hM.row
  have c0 := hM.blk.cell 0
  simp only [List.getElem?_toArray, List.getElem?_cons_zero] at c0
  have hg := hM.blk.lt
  have hg1 : g < w.heap.size + 1 := by omega
  have hg2 : g < w.heap.size + 1 + 1 := by omega
  have HM := Lib.hid hM
  have HF := Lib.hid hF
  clear hM hF
  obtain ⟨n, hn⟩ : ∃ n, l.length = n := ⟨_, rfl⟩
  rw [hn] at c0 hl HM
  have HN := Lib.hid hn
  clear hn
  go_enter Try.func19, Try.ntmps19
  go_wp2_with fail
  obtain ⟨w2, hw2⟩ : ∃ w2, ((w.alloc (.cells #[.int .i64 m, .int .i64 0, .int .i64 0, .slice none 0 0, .slice none 0 0] 50)).alloc (.cells (plA x y h s) 45)).alloc (.cells (plA 0 0 0 0) 45) = w2 := ⟨_, rfl⟩
  have HR2 : Hid (Rep w w2 w.heap.size m ⟨x, y, h, s⟩) := Lib.hid (by
    rw [← hw2]
    refine ⟨by repeat (first | exact World.grownBy.refl _ _ | refine only_trans ?_ (World.grownBy_alloc _ _ none)), ((Blk.new w 50 _).alloc _).alloc _, ?_, ?_⟩
    · have := (Blk.new (w.alloc (.cells #[.int .i64 m, .int .i64 0, .int .i64 0, .slice none 0 0, .slice none 0 0] 50)) 45 (plA x y h s)).alloc (.cells (plA 0 0 0 0) 45)
      rwa [World.size_alloc] at this
    · have := Blk.new ((w.alloc (.cells #[.int .i64 m, .int .i64 0, .int .i64 0, .slice none 0 0, .slice none 0 0] 50)).alloc (.cells (plA x y h s) 45)) 45 (plA 0 0 0 0)
      rwa [World.size_alloc, World.size_alloc] at this)
  rw [hw2]
  clear hw2
  obtain ⟨gm, hgm⟩ : ∃ gm, w.heap.size = gm := ⟨_, rfl⟩
  rw [hgm] at HR2
  rw [hgm]
  have HGM := Lib.hid hgm
  clear hgm c0 hg hg1 hg2
  go_loopw [16] (fun i wr => ∃ k : Nat, k ≤ n ∧ i = .int .i64 k ∧ Hid (Rep w wr gm m ((l.take k).foldl f ⟨x, y, h, s⟩))) (fun i _ => n - (intOf i).toNat)
  case atStart => exact ⟨0, by omega, rfl, HR2⟩
  case round =>
    obtain ⟨k, hk, rfl, HR⟩ := hrel
    obtain ⟨p, hp⟩ : ∃ p, (l.take k).foldl f ⟨x, y, h, s⟩ = p := ⟨_, rfl⟩
    rw [hp] at HR
    have HP := Lib.hid hp
    clear hp
    obtain ⟨px, py, ph, ps⟩ := p
    have hgs := HR.out.rs.lt
    have hgs1 : gm < wr.heap.size := by omega
    have hgs2 : gm + 1 < wr.heap.size := by omega
    by_cases hlt : k < n
    · have hrow := (HM.out.grown HR.out.grown).row
      rw [HN.out] at hrow
      obtain ⟨b, off, c, rfl, hb, hx, hr⟩ := (own_rg Cmd.cl_len (by decide) hrow).at_ Cmd.cl_len hlt
      clear hrow
      obtain ⟨sq, bt, dx, dy, t⟩ := c
      obtain ⟨c0, c1, c2, c3, c4⟩ := cmd_cells hr
      obtain ⟨m0, m1, m2, m3, m4⟩ := map_cells HR.out.mp
      obtain ⟨d0, d1, d2, d3, d4, d5, d6, d7, d8, d9, d10, d11, d12, d13, d14⟩ := pl_cells HR.out.pl
      have HX := Lib.hid hx
      clear hr hx
      go_wp2_with fail
      clear m0 m1 m2 m3 m4 d0 d1 d2 d3 d4 d5 d6 d7 d8 d9 d10 d11 d12 d13 d14 c0 c1 c2 c3 c4
      refine (HF.out px py ph ps sq bt dx dy t _).mono ?_
      rintro e w3 ⟨rfl, h3⟩
      have hG3 := only_trans (World.grownBy_alloc wr _ none) h3
      have hb3 := HR.out.pl.grown hG3 (by simp)
      obtain ⟨d0, d1, d2, d3, d4, d5, d6, d7, d8, d9, d10, d11, d12, d13, d14⟩ := pl_cells hb3
      obtain ⟨e0, e1, e2, e3, e4, e5, e6, e7, e8, e9, e10, e11, e12, e13, e14⟩ := pl_free hb3
      have HG3 := Lib.hid hG3
      obtain ⟨q, hq⟩ : ∃ q, f ⟨px, py, ph, ps⟩ ⟨sq, bt, dx, dy, t⟩ = q := ⟨_, rfl⟩
      rw [hq]
      have HQ := Lib.hid hq
      obtain ⟨qx, qy, qh, qs⟩ := q
      have HS3 := Lib.hid (pl_store hb3 qx qy qh qs)
      clear h3 hG3 hb3 hq
      dsimp only [Pl.val]
      go_wp2_with fail
      clear d0 d1 d2 d3 d4 d5 d6 d7 d8 d9 d10 d11 d12 d13 d14 e0 e1 e2 e3 e4 e5 e6 e7 e8 e9 e10 e11 e12 e13 e14
      go_roundw
      case rel => exact ⟨k + 1, by omega, by go_num, Lib.hid (by
        have hq2 : (l.take (k + 1)).foldl f ⟨x, y, h, s⟩ = ⟨qx, qy, qh, qs⟩ := by
          have := HX.out
          rw [List.take_add_one, this, List.foldl_append, HP.out]
          exact HQ.out
        rw [hq2]
        have hgw := HGM.out
        exact ⟨grown_own (only_trans HR.out.grown HG3.out) HS3.out.2 (by omega), (HR.out.mp.grown HG3.out (by simp)).grown HS3.out.2 (by simp), HS3.out.1, (HR.out.rs.grown HG3.out (by simp)).grown HS3.out.2 (by simp)⟩)⟩
      case measure => simp [intOf]; omega
    · obtain rfl : k = n := by omega
      obtain ⟨d0, d1, d2, d3, d4, d5, d6, d7, d8, d9, d10, d11, d12, d13, d14⟩ := pl_cells HR.out.pl
      obtain ⟨r0, r1, r2, r3, r4, r5, r6, r7, r8, r9, r10, r11, r12, r13, r14⟩ := pl_cells HR.out.rs
      obtain ⟨e0, e1, e2, e3, e4, e5, e6, e7, e8, e9, e10, e11, e12, e13, e14⟩ := pl_free HR.out.rs
      go_wp2_with fail
      have HS := pl_store HR.out.rs px py ph ps
      obtain ⟨q0, q1, q2, q3, q4, q5, q6, q7, q8, q9, q10, q11, q12, q13, q14⟩ := pl_cells HS.1
      refine bodyPost_ret (v := .agg (plA px py ph ps)) (by simp [results, Try.results19, go_sem, q0, q1, q2, q3, q4, q5, q6, q7, q8, q9, q10, q11, q12, q13, q14]) rfl ⟨?_, ?_⟩
      · have := HP.out
        rw [List.take_of_length_le (by rw [HN.out]; omega)] at this
        rw [this]
      · have hgw := HGM.out
        exact grown_own HR.out.grown HS.2 (by omega)
end Go.Proofs.Ytehlehfljgphkaa
