/-
  The document's Add, where it saves.
-/
import Derived.Test.YtehlehfljgphkaaRefR9
import Derived.Test.YtehlehfljgphkaaRefR10
namespace Go.Proofs.Ytehlehfljgphkaa
open Go.RowKit

set_option maxRecDepth 100000 in
set_option maxHeartbeats 4000000 in
/-- **Add** of the document's, where it saves. -/
theorem refadd_yes (gw : Nat) (l all : List Cmd) (AL AA : Option Addr) (s : Bool) (last : Int) (sq bt dx dy t : Int) (hq : 0 ≤ sq ∧ sq < 65536) (hs : ∀ c ∈ all, 0 ≤ c.seq ∧ c.seq < 65536) (hl : l.length < 64) (ha : all.length ≤ 1000000) (hT : Tied s last all) (w : World) (h : Rm w gw l all AL AA)
    (hrt : rightB ⟨sq, bt, dx, dy, t⟩ = true) (hn : s = true → newer sq last = true) :
    Calls Try.prog 15 #[.pointer (some ⟨gw, 0, none⟩), .agg #[.int .u16 sq, .int .u8 bt, .int .i8 dx, .int .i8 dy, .int .i64 t]] w fun e w' => e = .returned (.int .i64 0) ∧
      (∃ AL' AA', Rm w' gw (l ++ [⟨sq, bt, dx, dy, t⟩]) (all ++ [⟨sq, bt, dx, dy, t⟩]) AL' AA' ∧ (∀ ad, AL' = some ad → w.heap.size ≤ ad.block) ∧ (∀ ad, AA' = some ad → w.heap.size ≤ ad.block)) ∧ w.grownBy w' (some gw) := by
  have HR := Lib.hid h
  have HS := Lib.hid hs
  have HT := Lib.hid hT
  have HNW := Lib.hid hn
  obtain ⟨n, hn⟩ : ∃ n, l.length = n := ⟨_, rfl⟩
  have HN := Lib.hid hn
  rw [hn] at hl
  clear hn h hs hT
  obtain ⟨w2, HW2⟩ : ∃ w2, Hid ((w.alloc (.cells #[.int .u16 sq, .int .u8 bt, .int .i8 dx, .int .i8 dy, .int .i64 t] 33)).alloc (.cells #[.int .u16 sq, .int .u8 bt, .int .i8 dx, .int .i8 dy, .int .i64 t] 33) = w2) := ⟨_, Lib.hid rfl⟩
  have HG2 : Hid (w.grownBy w2 none) := Lib.hid (by rw [← HW2.out]; exact only_trans (World.grownBy_alloc _ _ none) (World.grownBy_alloc _ _ none))
  have HB2 : Hid (Blk w2 w.heap.size 33 #[.int .u16 sq, .int .u8 bt, .int .i8 dx, .int .i8 dy, .int .i64 t]) := Lib.hid (by rw [← HW2.out]; exact (Blk.new _ _ _).alloc _)
  have HR2 := Lib.hid (HR.out.grown HG2.out)
  have HLT : Hid (gw < w.heap.size) := Lib.hid (by obtain ⟨_, _, _, _, hb⟩ := HR.out.blk; exact hb.lt)
  obtain ⟨m, hm⟩ : ∃ m, all.length = m := ⟨_, rfl⟩
  obtain ⟨cL, cA, c0, c1, _, _⟩ := HR2.out.two
  rw [HN.out] at c0
  rw [hm] at c1 ha
  have HM := Lib.hid hm
  clear hm
  obtain ⟨b0, b1, b2, b3, b4⟩ := cm_cells HB2.out
  rcases HT.out with ⟨rfl, rfl⟩ | ⟨pre, d, rfl, rfl, hd⟩
  · obtain rfl : m = 0 := by have := HM.out; simpa using this.symm
    go_enter Try.func15, Try.ntmps15
    go_wp2_with (go_at_call 22; refine (refright_calls _ _ _ _ _ _).mono ?_; rw [hrt, HW2.out]; rintro e w1 ⟨rfl, rfl⟩)
    go_quiet (fail)
    go_wp2_with fail
    have HG3 : Hid (w2.grownBy (w2.drewN nq) none) := Lib.hid (grown_drawn (World.grownBy.refl w2 none) nq)
    have HR3 := Lib.hid (HR2.out.grown HG3.out)
    have HB3 := Lib.hid (HB2.out.grown HG3.out (by simp))
    obtain ⟨w3, hw3⟩ : ∃ w3, w2.drewN nq = w3 := ⟨_, rfl⟩
    obtain ⟨kb, hkb⟩ : ∃ kb, w.heap.size = kb := ⟨_, rfl⟩
    rw [hw3] at HG3 HR3 HB3
    rw [hkb] at HB3
    rw [hw3, hkb]
    have HGA := Lib.hid (only_trans HG2.out HG3.out)
    have HGK : Hid (gw ≠ kb) := Lib.hid (by have := HLT.out; omega)
    have HKB := Lib.hid hkb
    have HGW3 : Hid (gw < w3.heap.size) := Lib.hid (by have := HLT.out; have := HGA.out.size; omega)
    have HC3 := Lib.hid (HG3.out.cell c0 (by simp))
    have HF3 : Hid (w3.frozen? ⟨gw, 0, none⟩ = false) := Lib.hid (by obtain ⟨_, _, _, _, h, _⟩ := HR3.out.two; exact h)
    clear c0 c1 b0 b1 b2 b3 b4 hw3 hkb hn HG3 HR2 HB2
    refine post_any fun Q0 hn0 hp => a9 Q0 HR3 HN (by omega) HC3 HF3 HGW3 (Lib.hid (cm_cells HB3.out)) (fun _ _ _ _ _ _ _ _ _ _ _ _ w4 H4 => hn0 _ _ ?_) hp
    obtain ⟨h4g, A4, h4r, h4a⟩ := H4.out
    have HG4 := Lib.hid h4g
    have HR4 := Lib.hid h4r
    have HA4 := Lib.hid h4a
    have HB4 := Lib.hid (HB3.out.grown h4g (fun e => HGK.out (by injection e with e; exact e.symm)))
    have HGW4 : Hid (gw < w4.heap.size) := Lib.hid (Nat.lt_of_lt_of_le HGW3.out h4g.size)
    obtain ⟨cL4, cA4, _, c1, _, f1⟩ := HR4.out.two
    rw [HM.out] at c1
    have HC4 := Lib.hid c1
    have HF4 := Lib.hid f1
    clear h4g h4r h4a H4 c1 f1 HR3 HB3
    go_wp2_with fail
    refine post_any fun Q0 hn0 hp => a10 Q0 HR4 HM (by omega) HC4 HF4 HGW4 (Lib.hid (cm_cells HB4.out)) (fun _ _ _ _ _ _ _ _ _ _ _ _ w5 H5 => hn0 _ _ ?_) hp
    obtain ⟨h5g, A5, h5r, h5a⟩ := H5.out
    have HG5 := Lib.hid (World.grownBy.trans HG4.out h5g)
    have HR5 := Lib.hid h5r
    have HA5 := Lib.hid (fun ad e => Nat.le_trans HG4.out.size (h5a ad e))
    clear h5g h5r h5a H5
    go_wp2_with fail
    go_ret
    exact ⟨rfl, ⟨A4, A5, HR5.out, fun ad e => by have := HA4.out ad e; have := HGA.out.size; omega, fun ad e => by have := HA5.out ad e; have := HGA.out.size; omega⟩, World.grownBy.trans (grown_weak HGA.out _) HG5.out⟩
  · obtain ⟨j, rfl⟩ : ∃ j, m = j + 1 := ⟨pre.length, by have := HM.out; simp at this; omega⟩
    have hpj : pre.length = j := by have := HM.out; simp at this; omega
    obtain ⟨b, off, x, rfl, hbl, hx, hr⟩ := (HR2.out.ra.of_len HM.out).at_ Cmd.cl_len (show j < j + 1 by omega)
    have hxd : x = d := by
      rw [List.getElem?_append_right (by omega), hpj, Nat.sub_self] at hx
      simpa using hx.symm
    subst hxd
    have hdr := HS.out x (by simp)
    obtain ⟨xs, xb, xx, xy, xt⟩ := x
    dsimp only at hd hdr
    subst hd
    obtain ⟨d0, _, _, _, _⟩ := cmd_cells hr
    have hdn := dist_newer sq xs
    have HD := Lib.hid (fun W => refdist_calls sq xs W hq hdr)
    have ej : IntKind.i64.wrap (((j + 1 : Nat) : Int) - 1) = (j : Int) := by rw [IntWalk.i64_in _ (by omega)]; omega
    have ej4 : IntKind.i64.wrap ((j : Int) + 1 - 1) = (j : Int) := by rw [IntWalk.i64_in _ (by omega)]; omega
    have hj0 : (0 : Int) < (j : Int) + 1 := by omega
    have hj1 : decide ((0 : Int) < (j : Int) + 1) = true := decide_eq_true hj0
    have hnw := HNW.out rfl
    rw [hnw] at hdn
    clear hr hbl hx hpj hnw
    go_enter Try.func15, Try.ntmps15
    go_wp2_with (go_at_call 22; refine (refright_calls _ _ _ _ _ _).mono ?_; rw [hrt, HW2.out]; rintro e w1 ⟨rfl, rfl⟩)
    go_quiet ((go_at_call 28; exact quiet1 (HD.out _)))
    clear ej ej4 hj0 hj1 hdn d0
    go_wp2_with fail
    have HG3 : Hid (w2.grownBy (w2.drewN nq) none) := Lib.hid (grown_drawn (World.grownBy.refl w2 none) nq)
    have HR3 := Lib.hid (HR2.out.grown HG3.out)
    have HB3 := Lib.hid (HB2.out.grown HG3.out (by simp))
    obtain ⟨w3, hw3⟩ : ∃ w3, w2.drewN nq = w3 := ⟨_, rfl⟩
    obtain ⟨kb, hkb⟩ : ∃ kb, w.heap.size = kb := ⟨_, rfl⟩
    rw [hw3] at HG3 HR3 HB3
    rw [hkb] at HB3
    rw [hw3, hkb]
    have HGA := Lib.hid (only_trans HG2.out HG3.out)
    have HGK : Hid (gw ≠ kb) := Lib.hid (by have := HLT.out; omega)
    have HKB := Lib.hid hkb
    have HGW3 : Hid (gw < w3.heap.size) := Lib.hid (by have := HLT.out; have := HGA.out.size; omega)
    have HC3 := Lib.hid (HG3.out.cell c0 (by simp))
    have HF3 : Hid (w3.frozen? ⟨gw, 0, none⟩ = false) := Lib.hid (by obtain ⟨_, _, _, _, h, _⟩ := HR3.out.two; exact h)
    clear c0 c1 b0 b1 b2 b3 b4 hw3 hkb hn HG3 HR2 HB2
    refine post_any fun Q0 hn0 hp => a9 Q0 HR3 HN (by omega) HC3 HF3 HGW3 (Lib.hid (cm_cells HB3.out)) (fun _ _ _ _ _ _ _ _ _ _ _ _ w4 H4 => hn0 _ _ ?_) hp
    obtain ⟨h4g, A4, h4r, h4a⟩ := H4.out
    have HG4 := Lib.hid h4g
    have HR4 := Lib.hid h4r
    have HA4 := Lib.hid h4a
    have HB4 := Lib.hid (HB3.out.grown h4g (fun e => HGK.out (by injection e with e; exact e.symm)))
    have HGW4 : Hid (gw < w4.heap.size) := Lib.hid (Nat.lt_of_lt_of_le HGW3.out h4g.size)
    obtain ⟨cL4, cA4, _, c1, _, f1⟩ := HR4.out.two
    rw [HM.out] at c1
    have HC4 := Lib.hid c1
    have HF4 := Lib.hid f1
    clear h4g h4r h4a H4 c1 f1 HR3 HB3
    go_wp2_with fail
    refine post_any fun Q0 hn0 hp => a10 Q0 HR4 HM (by omega) HC4 HF4 HGW4 (Lib.hid (cm_cells HB4.out)) (fun _ _ _ _ _ _ _ _ _ _ _ _ w5 H5 => hn0 _ _ ?_) hp
    obtain ⟨h5g, A5, h5r, h5a⟩ := H5.out
    have HG5 := Lib.hid (World.grownBy.trans HG4.out h5g)
    have HR5 := Lib.hid h5r
    have HA5 := Lib.hid (fun ad e => Nat.le_trans HG4.out.size (h5a ad e))
    clear h5g h5r h5a H5
    go_wp2_with fail
    go_ret
    exact ⟨rfl, ⟨A4, A5, HR5.out, fun ad e => by have := HA4.out ad e; have := HGA.out.size; omega, fun ad e => by have := HA5.out ad e; have := HGA.out.size; omega⟩, World.grownBy.trans (grown_weak HGA.out _) HG5.out⟩
end Go.Proofs.Ytehlehfljgphkaa
