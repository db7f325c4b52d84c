import Derived.Test.YtehlehfljgphkaaRefW
namespace Go.Proofs.Ytehlehfljgphkaa
open Go.RowKit

noncomputable def a10C : Code := (Try.f15.body.bind (regOf 10)).getD .skip
set_option maxRecDepth 100000 in
set_option maxHeartbeats 8000000 in
theorem a10 {x1 x2 x4 x5 x6 x7 x8 x9 x10 x11 x12 x13 x14 x15 x16 x17 x18 x19 x20 x21 x22 x23 x24 x25 x26 x27 x28 x29 x30 x31 x32 x33 x34 x35 x36 x37 x38 x39 x40 x41 x42 x43 x44 x45 x46 x47 x48 x49 x50 x51 x52 x53 x54 x55 x56 x57 x58 x59 x60 x61 x62 : Value} {w : World} {gw kb n cX : Nat} {sq bt dx dy t : Int} {l all : List Cmd} {AL AA : Option Addr} (Q : Exit → Act → World → Prop)
    (HR : Hid (Rm w gw l all AL AA)) (HN0 : Hid (all.length = n)) (hn : n ≤ 1000000) (HC0 : Hid (w.cell? ⟨gw, 1, none⟩ = some (.slice AA n cX))) (HF0 : Hid (w.frozen? ⟨gw, 1, none⟩ = false)) (HGW : Hid (gw < w.heap.size))
    (HBX : Hid (w.cell? ⟨kb, 0, none⟩ = some (.int .u16 sq) ∧ w.cell? ⟨kb, 1, none⟩ = some (.int .u8 bt) ∧ w.cell? ⟨kb, 2, none⟩ = some (.int .i8 dx) ∧ w.cell? ⟨kb, 3, none⟩ = some (.int .i8 dy) ∧ w.cell? ⟨kb, 4, none⟩ = some (.int .i64 t)))
    (hq : ∀ (y51 y52 y53 y54 y55 y56 y57 y58 y59 y60 y61 y62 : Value) (w' : World), Hid (w.grownBy w' (some gw) ∧ (∃ A', Rm w' gw l (all ++ [⟨sq, bt, dx, dy, t⟩]) AL A' ∧ ∀ ad, A' = some ad → w.heap.size ≤ ad.block)) → Q .normal ⟨#[.pointer (some ⟨gw, 0, none⟩), x1, x2, .pointer (some ⟨kb, 0, none⟩), x4, x5, x6, x7, x8, x9, x10, x11, x12, x13, x14, x15, x16, x17, x18, x19, x20, x21, x22, x23, x24, x25, x26, x27, x28, x29, x30, x31, x32, x33, x34, x35, x36, x37, x38, x39, x40, x41, x42, x43, x44, x45, x46, x47, x48, x49, x50, y51, y52, y53, y54, y55, y56, y57, y58, y59, y60, y61, y62], []⟩ w') (hp : ∀ c a b w, Q (.panic c) a w → Q (.panic c) b w) :
    Code.wp Try.prog a10C Q ⟨#[.pointer (some ⟨gw, 0, none⟩), x1, x2, .pointer (some ⟨kb, 0, none⟩), x4, x5, x6, x7, x8, x9, x10, x11, x12, x13, x14, x15, x16, x17, x18, x19, x20, x21, x22, x23, x24, x25, x26, x27, x28, x29, x30, x31, x32, x33, x34, x35, x36, x37, x38, x39, x40, x41, x42, x43, x44, x45, x46, x47, x48, x49, x50, x51, x52, x53, x54, x55, x56, x57, x58, x59, x60, x61, x62], []⟩ w := by
  conv => arg 2; whnf
  refine wp_region_any (by kernel_rfl) ?_
  try (change wpAny _ _ _ _ _ _ _ (World.drew _))
  have HG0 : Hid (w.grownBy w.drew none) := Lib.hid (only_drew (World.grownBy.refl w none))
  obtain ⟨W0, hW0⟩ : ∃ W, w.drew = W := ⟨_, rfl⟩
  rw [hW0] at HG0 ⊢
  clear hW0
  have c0 := HG0.out.cell HC0.out (by simp)
  have b0 := HG0.out.cell HBX.out.1 (by simp)
  have b1 := HG0.out.cell HBX.out.2.1 (by simp)
  have b2 := HG0.out.cell HBX.out.2.2.1 (by simp)
  have b3 := HG0.out.cell HBX.out.2.2.2.1 (by simp)
  have b4 := HG0.out.cell HBX.out.2.2.2.2 (by simp)
  refine take_k (i := 0) (v := ?_) rfl (by kernel_rfl) (by kernel_rfl) (by kernel_rfl) (fun c a w h => hp c _ _ w h) (Or.inl ⟨by rfl, ?_⟩) (fun K hK => ?_)
  rotate_left 1
  · (intro w; go_simp; try with_reducible rfl)
  go_simp
  refine hK _ _ ?_
  clear hK K
  refine take_k (i := 2) (v := ?_) rfl (by kernel_rfl) (by kernel_rfl) (by kernel_rfl) (fun c a w h => hp c _ _ w h) (Or.inl ⟨by rfl, ?_⟩) (fun K hK => ?_)
  rotate_left 1
  · (intro w; go_simp; try with_reducible rfl)
  go_simp
  refine hK _ _ ?_
  clear hK K
  refine take_k (i := 3) (v := ?_) rfl (by kernel_rfl) (by kernel_rfl) (by kernel_rfl) (fun c a w h => hp c _ _ w h) (Or.inl ⟨by rfl, ?_⟩) (fun K hK => ?_)
  rotate_left 1
  · (intro w; go_simp; try with_reducible rfl)
  go_simp
  refine hK _ _ ?_
  clear hK K
  refine take_k (i := 4) (v := ?_) rfl (by kernel_rfl) (by kernel_rfl) (by kernel_rfl) (fun c a w h => hp c _ _ w h) (Or.inl ⟨by rfl, ?_⟩) (fun K hK => ?_)
  rotate_left 1
  · (intro w; go_simp; try with_reducible rfl)
  go_simp
  refine hK _ _ ?_
  clear hK K
  refine wpAny_ready (rs := [1, 5, 7]) (by kernel_rfl) (by simp) ?_
  refine AllReady.cons rfl (fun K hK => ?_) ?_
  · go_simp
    have hown := World.ownsRow_lit (e := 33) (size := 5) W0 #[] 0 (Nat.le_refl _) (by decide) rfl
    have hgr := World.grownBy_alloc W0 (.cells #[] 33) none
    have HG1 := Lib.hid (only_trans HG0.out hgr)
    have HBP : Hid (w.heap.size ≤ W0.heap.size) := Lib.hid HG0.out.size
    obtain ⟨W1, hW⟩ : ∃ W, W0.alloc (.cells #[] 33) = W := ⟨_, rfl⟩
    obtain ⟨bp, hbp⟩ : ∃ bp, W0.heap.size = bp := ⟨_, rfl⟩
    rw [hW, hbp] at hown
    rw [hW] at HG1
    rw [hbp] at HBP
    simp only [hW, hbp]
    have H40 := Lib.hid hown
    have HBD : Hid (bp < W1.heap.size) := Lib.hid (hown.lt bp rfl).2
    clear hown hgr hW hbp HG0 c0 b0 b1 b2 b3 b4
    have c0 := HG1.out.cell HC0.out (by simp)
    have b0 := HG1.out.cell HBX.out.1 (by simp)
    have b1 := HG1.out.cell HBX.out.2.1 (by simp)
    have b2 := HG1.out.cell HBX.out.2.2.1 (by simp)
    have b3 := HG1.out.cell HBX.out.2.2.2.1 (by simp)
    have b4 := HG1.out.cell HBX.out.2.2.2.2 (by simp)
    refine hK _ _ ?_
    clear hK K
    refine wpAny_ready (rs := [5, 7]) (by kernel_rfl) (by simp) ?_
    refine AllReady.cons rfl (fun K hK => ?_) ?_
    · go_simp
      refine hK _ _ ?_
      clear hK K
      refine wpAny_ready (rs := [6, 7]) (by kernel_rfl) (by simp) ?_
      refine AllReady.cons rfl (fun K hK => ?_) ?_
      · refine step_append_rg rfl (.tmp 52) (.tmp 56) 27 rfl bp 33 (.agg #[.int .u16 0, .int .u8 0, .int .i8 0, .int .i8 0, .int .i64 0]) 5 16 Cmd.cl_len Try.underlying27 Try.info33 rfl (by decide) (.slice (some ⟨bp, 0, none⟩) 0 0) 0 [] rfl H40.out W1.heap.size AA n cX all rfl ((HR.out.grown HG1.out).ra.of_len HN0.out) (Cmd.one _) n (by omega) (by unfold maxLen; omega) (by omega) (by have := (H40.out.lt bp rfl).2; omega) ?_
        intro A5 c5 W2 h2 h3 h4
        have HG2 := Lib.hid (grown_over HG1.out h3 HBP.out)
        rw [List.nil_append] at h2
        have H45 := Lib.hid h2
        have HBD : Hid (bp < W2.heap.size) := Lib.hid (by have h1 := HBD.out; have h2 := h3.size; omega)
        clear h2 h3 h4 H40 HG1 c0 b0 b1 b2 b3 b4
        have c0 := HG2.out.cell HC0.out (by simp)
        have b0 := HG2.out.cell HBX.out.1 (by simp)
        have b1 := HG2.out.cell HBX.out.2.1 (by simp)
        have b2 := HG2.out.cell HBX.out.2.2.1 (by simp)
        have b3 := HG2.out.cell HBX.out.2.2.2.1 (by simp)
        have b4 := HG2.out.cell HBX.out.2.2.2.2 (by simp)
        refine hK _ _ ?_
        clear hK K
        refine wpAny_ready (rs := [7]) (by kernel_rfl) (by simp) ?_
        refine AllReady.cons rfl (fun K hK => ?_) ?_
        · go_simp
          refine hK _ _ ?_
          clear hK K
          refine wpAny_ready (rs := [8]) (by kernel_rfl) (by simp) ?_
          refine AllReady.cons rfl (fun K hK => ?_) ?_
          · go_simp
            have hblk := Blk.new W2 33 #[.int .u16 sq, .int .u8 bt, .int .i8 dx, .int .i8 dy, .int .i64 t]
            have hgr := World.grownBy_alloc W2 (.cells #[.int .u16 sq, .int .u8 bt, .int .i8 dx, .int .i8 dy, .int .i64 t] 33) none
            have HG3 := Lib.hid (only_trans HG2.out hgr)
            have HO' := Lib.hid (own_kept H45.out hgr)
            have HN : Hid (∀ k, (Value.slice A5 n c5).ownBlock = some k → k ≠ W2.heap.size) := Lib.hid (fun k e => by have := (H45.out.lt k e).2; omega)
            obtain ⟨W3, hW⟩ : ∃ W, W2.alloc (.cells #[.int .u16 sq, .int .u8 bt, .int .i8 dx, .int .i8 dy, .int .i64 t] 33) = W := ⟨_, rfl⟩
            obtain ⟨p7, hp7⟩ : ∃ p, W2.heap.size = p := ⟨_, rfl⟩
            rw [hW, hp7] at hblk
            rw [hW] at HG3 HO'
            have HBD : Hid (bp < W3.heap.size) := Lib.hid (by have h1 := HBD.out; have h2 := hgr.size; rw [hW] at h2; omega)
            rw [hp7] at HN
            clear H45
            have H45 := HO'
            clear HO'
            simp only [hW, hp7]
            have H47 := Lib.hid hblk
            clear hblk hgr hW hp7 HG2 c0 b0 b1 b2 b3 b4
            have c0 := HG3.out.cell HC0.out (by simp)
            have b0 := HG3.out.cell HBX.out.1 (by simp)
            have b1 := HG3.out.cell HBX.out.2.1 (by simp)
            have b2 := HG3.out.cell HBX.out.2.2.1 (by simp)
            have b3 := HG3.out.cell HBX.out.2.2.2.1 (by simp)
            have b4 := HG3.out.cell HBX.out.2.2.2.2 (by simp)
            refine hK _ _ ?_
            clear hK K
            refine wpAny_ready (rs := [9]) (by kernel_rfl) (by simp) ?_
            refine AllReady.cons rfl (fun K hK => ?_) ?_
            · refine step_append_rg rfl (.tmp 57) (.tmp 59) 27 rfl bp 33 (.agg #[.int .u16 0, .int .u8 0, .int .i8 0, .int .i8 0, .int .i64 0]) 5 16 Cmd.cl_len Try.underlying27 Try.info33 rfl (by decide) (.slice A5 n c5) n all rfl H45.out (p7 + 1) (some ⟨p7, 0, none⟩) 1 1 [⟨sq, bt, dx, dy, t⟩] rfl (rc_of_blk H47.out) (Cmd.one _) (n + 1) rfl (by unfold maxLen; omega) (by omega) (by have := HBD.out; omega) ?_
              intro A8 c8 W4 h2 h3 h4
              have HG4 := Lib.hid (grown_own0 HG3.out h3 (fun k e => by have := (H45.out.lt k e).1; have := HBP.out; omega))
              have H48 := Lib.hid h2
              clear h2 h3 h4 H45 H47 HN HG3 c0 b0 b1 b2 b3 b4
              have c0 := HG4.out.cell HC0.out (by simp)
              have b0 := HG4.out.cell HBX.out.1 (by simp)
              have b1 := HG4.out.cell HBX.out.2.1 (by simp)
              have b2 := HG4.out.cell HBX.out.2.2.1 (by simp)
              have b3 := HG4.out.cell HBX.out.2.2.2.1 (by simp)
              have b4 := HG4.out.cell HBX.out.2.2.2.2 (by simp)
              have f0 := (World.frozen?_of_block (a := ⟨gw, 1, none⟩) (HG4.out.block gw HGW.out (by simp))).trans HF0.out
              refine hK _ _ ?_
              clear hK K
              refine take_k (i := 10) (v := ?_) rfl (by kernel_rfl) (by kernel_rfl) (by kernel_rfl) (fun c a w h => hp c _ _ w h) (Or.inl ⟨by rfl, ?_⟩) (fun K hK => ?_)
              rotate_left 1
              · (intro w; go_simp; try with_reducible rfl)
              go_simp
              refine hK _ _ ?_
              clear hK K
              refine take_k (i := 11) (v := ?_) rfl (by kernel_rfl) (by kernel_rfl) (by kernel_rfl) (fun c a w h => hp c _ _ w h) (Or.inl ⟨by rfl, ?_⟩) (fun K hK => ?_)
              rotate_left 1
              · (intro w; go_simp; try with_reducible rfl)
              go_simp
              refine hK _ _ ?_
              clear hK K
              refine wpAny_ready (rs := [12]) (by kernel_rfl) (by simp) ?_
              refine AllReady.cons rfl (fun K hK => ?_) ?_
              · go_simp
                refine hK _ _ ?_
                clear hK K
                refine wpAny_done (by kernel_rfl) ?_ _
                refine hq _ _ _ _ _ _ _ _ _ _ _ _ _ (Lib.hid ⟨only_trans (grown_weak HG4.out _) (only_put (World.grownBy.refl _ _) 1 _), A8, ?_, fun ad e => ?_⟩)
                · exact (HR.out.grown HG4.out).put1 A8 (n + 1) c8 _ (own_rg Cmd.cl_len (by decide) H48.out) (own_caps H48.out).1 (own_caps H48.out).2 (fun ad e => own_far H48.out e HBP.out HGW.out)
                · exact own_ge H48.out e HBP.out
              exact AllReady.nil
            exact AllReady.nil
          exact AllReady.nil
        exact AllReady.nil
      refine AllReady.cons rfl (fun K hK => ?_) ?_
      · go_simp
        refine hK _ _ ?_
        clear hK K
        refine wpAny_ready (rs := [6, 8]) (by kernel_rfl) (by simp) ?_
        refine AllReady.cons rfl (fun K hK => ?_) ?_
        · refine step_append_rg rfl (.tmp 52) (.tmp 56) 27 rfl bp 33 (.agg #[.int .u16 0, .int .u8 0, .int .i8 0, .int .i8 0, .int .i64 0]) 5 16 Cmd.cl_len Try.underlying27 Try.info33 rfl (by decide) (.slice (some ⟨bp, 0, none⟩) 0 0) 0 [] rfl H40.out W1.heap.size AA n cX all rfl ((HR.out.grown HG1.out).ra.of_len HN0.out) (Cmd.one _) n (by omega) (by unfold maxLen; omega) (by omega) (by have := (H40.out.lt bp rfl).2; omega) ?_
          intro A5 c5 W2 h2 h3 h4
          have HG2 := Lib.hid (grown_over HG1.out h3 HBP.out)
          rw [List.nil_append] at h2
          have H45 := Lib.hid h2
          have HBD : Hid (bp < W2.heap.size) := Lib.hid (by have h1 := HBD.out; have h2 := h3.size; omega)
          clear h2 h3 h4 H40 HG1 c0 b0 b1 b2 b3 b4
          have c0 := HG2.out.cell HC0.out (by simp)
          have b0 := HG2.out.cell HBX.out.1 (by simp)
          have b1 := HG2.out.cell HBX.out.2.1 (by simp)
          have b2 := HG2.out.cell HBX.out.2.2.1 (by simp)
          have b3 := HG2.out.cell HBX.out.2.2.2.1 (by simp)
          have b4 := HG2.out.cell HBX.out.2.2.2.2 (by simp)
          refine hK _ _ ?_
          clear hK K
          refine wpAny_ready (rs := [8]) (by kernel_rfl) (by simp) ?_
          refine AllReady.cons rfl (fun K hK => ?_) ?_
          · go_simp
            have hblk := Blk.new W2 33 #[.int .u16 sq, .int .u8 bt, .int .i8 dx, .int .i8 dy, .int .i64 t]
            have hgr := World.grownBy_alloc W2 (.cells #[.int .u16 sq, .int .u8 bt, .int .i8 dx, .int .i8 dy, .int .i64 t] 33) none
            have HG3 := Lib.hid (only_trans HG2.out hgr)
            have HO' := Lib.hid (own_kept H45.out hgr)
            have HN : Hid (∀ k, (Value.slice A5 n c5).ownBlock = some k → k ≠ W2.heap.size) := Lib.hid (fun k e => by have := (H45.out.lt k e).2; omega)
            obtain ⟨W3, hW⟩ : ∃ W, W2.alloc (.cells #[.int .u16 sq, .int .u8 bt, .int .i8 dx, .int .i8 dy, .int .i64 t] 33) = W := ⟨_, rfl⟩
            obtain ⟨p7, hp7⟩ : ∃ p, W2.heap.size = p := ⟨_, rfl⟩
            rw [hW, hp7] at hblk
            rw [hW] at HG3 HO'
            have HBD : Hid (bp < W3.heap.size) := Lib.hid (by have h1 := HBD.out; have h2 := hgr.size; rw [hW] at h2; omega)
            rw [hp7] at HN
            clear H45
            have H45 := HO'
            clear HO'
            simp only [hW, hp7]
            have H47 := Lib.hid hblk
            clear hblk hgr hW hp7 HG2 c0 b0 b1 b2 b3 b4
            have c0 := HG3.out.cell HC0.out (by simp)
            have b0 := HG3.out.cell HBX.out.1 (by simp)
            have b1 := HG3.out.cell HBX.out.2.1 (by simp)
            have b2 := HG3.out.cell HBX.out.2.2.1 (by simp)
            have b3 := HG3.out.cell HBX.out.2.2.2.1 (by simp)
            have b4 := HG3.out.cell HBX.out.2.2.2.2 (by simp)
            refine hK _ _ ?_
            clear hK K
            refine wpAny_ready (rs := [9]) (by kernel_rfl) (by simp) ?_
            refine AllReady.cons rfl (fun K hK => ?_) ?_
            · refine step_append_rg rfl (.tmp 57) (.tmp 59) 27 rfl bp 33 (.agg #[.int .u16 0, .int .u8 0, .int .i8 0, .int .i8 0, .int .i64 0]) 5 16 Cmd.cl_len Try.underlying27 Try.info33 rfl (by decide) (.slice A5 n c5) n all rfl H45.out (p7 + 1) (some ⟨p7, 0, none⟩) 1 1 [⟨sq, bt, dx, dy, t⟩] rfl (rc_of_blk H47.out) (Cmd.one _) (n + 1) rfl (by unfold maxLen; omega) (by omega) (by have := HBD.out; omega) ?_
              intro A8 c8 W4 h2 h3 h4
              have HG4 := Lib.hid (grown_own0 HG3.out h3 (fun k e => by have := (H45.out.lt k e).1; have := HBP.out; omega))
              have H48 := Lib.hid h2
              clear h2 h3 h4 H45 H47 HN HG3 c0 b0 b1 b2 b3 b4
              have c0 := HG4.out.cell HC0.out (by simp)
              have b0 := HG4.out.cell HBX.out.1 (by simp)
              have b1 := HG4.out.cell HBX.out.2.1 (by simp)
              have b2 := HG4.out.cell HBX.out.2.2.1 (by simp)
              have b3 := HG4.out.cell HBX.out.2.2.2.1 (by simp)
              have b4 := HG4.out.cell HBX.out.2.2.2.2 (by simp)
              have f0 := (World.frozen?_of_block (a := ⟨gw, 1, none⟩) (HG4.out.block gw HGW.out (by simp))).trans HF0.out
              refine hK _ _ ?_
              clear hK K
              refine take_k (i := 10) (v := ?_) rfl (by kernel_rfl) (by kernel_rfl) (by kernel_rfl) (fun c a w h => hp c _ _ w h) (Or.inl ⟨by rfl, ?_⟩) (fun K hK => ?_)
              rotate_left 1
              · (intro w; go_simp; try with_reducible rfl)
              go_simp
              refine hK _ _ ?_
              clear hK K
              refine take_k (i := 11) (v := ?_) rfl (by kernel_rfl) (by kernel_rfl) (by kernel_rfl) (fun c a w h => hp c _ _ w h) (Or.inl ⟨by rfl, ?_⟩) (fun K hK => ?_)
              rotate_left 1
              · (intro w; go_simp; try with_reducible rfl)
              go_simp
              refine hK _ _ ?_
              clear hK K
              refine wpAny_ready (rs := [12]) (by kernel_rfl) (by simp) ?_
              refine AllReady.cons rfl (fun K hK => ?_) ?_
              · go_simp
                refine hK _ _ ?_
                clear hK K
                refine wpAny_done (by kernel_rfl) ?_ _
                refine hq _ _ _ _ _ _ _ _ _ _ _ _ _ (Lib.hid ⟨only_trans (grown_weak HG4.out _) (only_put (World.grownBy.refl _ _) 1 _), A8, ?_, fun ad e => ?_⟩)
                · exact (HR.out.grown HG4.out).put1 A8 (n + 1) c8 _ (own_rg Cmd.cl_len (by decide) H48.out) (own_caps H48.out).1 (own_caps H48.out).2 (fun ad e => own_far H48.out e HBP.out HGW.out)
                · exact own_ge H48.out e HBP.out
              exact AllReady.nil
            exact AllReady.nil
          exact AllReady.nil
        refine AllReady.cons rfl (fun K hK => ?_) ?_
        · go_simp
          have hblk := Blk.new W1 33 #[.int .u16 sq, .int .u8 bt, .int .i8 dx, .int .i8 dy, .int .i64 t]
          have hgr := World.grownBy_alloc W1 (.cells #[.int .u16 sq, .int .u8 bt, .int .i8 dx, .int .i8 dy, .int .i64 t] 33) none
          have HG2 := Lib.hid (only_trans HG1.out hgr)
          have HO' := Lib.hid (own_kept H40.out hgr)
          have HN : Hid (bp ≠ W1.heap.size) := Lib.hid (by have := (H40.out.lt bp rfl).2; omega)
          obtain ⟨W2, hW⟩ : ∃ W, W1.alloc (.cells #[.int .u16 sq, .int .u8 bt, .int .i8 dx, .int .i8 dy, .int .i64 t] 33) = W := ⟨_, rfl⟩
          obtain ⟨p7, hp7⟩ : ∃ p, W1.heap.size = p := ⟨_, rfl⟩
          rw [hW, hp7] at hblk
          rw [hW] at HG2 HO'
          have HBD : Hid (bp < W2.heap.size) := Lib.hid (by have h1 := HBD.out; have h2 := hgr.size; rw [hW] at h2; omega)
          rw [hp7] at HN
          clear H40
          have H40 := HO'
          clear HO'
          simp only [hW, hp7]
          have H47 := Lib.hid hblk
          clear hblk hgr hW hp7 HG1 c0 b0 b1 b2 b3 b4
          have c0 := HG2.out.cell HC0.out (by simp)
          have b0 := HG2.out.cell HBX.out.1 (by simp)
          have b1 := HG2.out.cell HBX.out.2.1 (by simp)
          have b2 := HG2.out.cell HBX.out.2.2.1 (by simp)
          have b3 := HG2.out.cell HBX.out.2.2.2.1 (by simp)
          have b4 := HG2.out.cell HBX.out.2.2.2.2 (by simp)
          refine hK _ _ ?_
          clear hK K
          refine wpAny_ready (rs := [6]) (by kernel_rfl) (by simp) ?_
          refine AllReady.cons rfl (fun K hK => ?_) ?_
          · refine step_append_rg rfl (.tmp 52) (.tmp 56) 27 rfl bp 33 (.agg #[.int .u16 0, .int .u8 0, .int .i8 0, .int .i8 0, .int .i64 0]) 5 16 Cmd.cl_len Try.underlying27 Try.info33 rfl (by decide) (.slice (some ⟨bp, 0, none⟩) 0 0) 0 [] rfl H40.out W2.heap.size AA n cX all rfl ((HR.out.grown HG2.out).ra.of_len HN0.out) (Cmd.one _) n (by omega) (by unfold maxLen; omega) (by omega) (by have := (H40.out.lt bp rfl).2; omega) ?_
            intro A5 c5 W3 h2 h3 h4
            have HG3 := Lib.hid (grown_over HG2.out h3 HBP.out)
            rw [List.nil_append] at h2
            have H45 := Lib.hid h2
            have HBD : Hid (bp < W3.heap.size) := Lib.hid (by have h1 := HBD.out; have h2 := h3.size; omega)
            have H47' := Lib.hid (H47.out.grown h3 (fun e => HN.out (by injection e with e; exact e.symm)))
            have HN' : Hid (∀ k, (Value.slice A5 n c5).ownBlock = some k → k ≠ p7) := Lib.hid (fun k e => by
              have hlt := H47.out.lt
              rcases h4 with h4 | h4
              · rw [h4] at e; injection e with e; rw [← e]; exact HN.out
              · rw [h4] at e; injection e with e; omega)
            clear H47 HN
            have H47 := H47'
            have HN := HN'
            clear H47' HN'
            clear h2 h3 h4 H40 HG2 c0 b0 b1 b2 b3 b4
            have c0 := HG3.out.cell HC0.out (by simp)
            have b0 := HG3.out.cell HBX.out.1 (by simp)
            have b1 := HG3.out.cell HBX.out.2.1 (by simp)
            have b2 := HG3.out.cell HBX.out.2.2.1 (by simp)
            have b3 := HG3.out.cell HBX.out.2.2.2.1 (by simp)
            have b4 := HG3.out.cell HBX.out.2.2.2.2 (by simp)
            refine hK _ _ ?_
            clear hK K
            refine wpAny_ready (rs := [9]) (by kernel_rfl) (by simp) ?_
            refine AllReady.cons rfl (fun K hK => ?_) ?_
            · refine step_append_rg rfl (.tmp 57) (.tmp 59) 27 rfl bp 33 (.agg #[.int .u16 0, .int .u8 0, .int .i8 0, .int .i8 0, .int .i64 0]) 5 16 Cmd.cl_len Try.underlying27 Try.info33 rfl (by decide) (.slice A5 n c5) n all rfl H45.out (p7 + 1) (some ⟨p7, 0, none⟩) 1 1 [⟨sq, bt, dx, dy, t⟩] rfl (rc_of_blk H47.out) (Cmd.one _) (n + 1) rfl (by unfold maxLen; omega) (by omega) (by have := HBD.out; omega) ?_
              intro A8 c8 W4 h2 h3 h4
              have HG4 := Lib.hid (grown_own0 HG3.out h3 (fun k e => by have := (H45.out.lt k e).1; have := HBP.out; omega))
              have H48 := Lib.hid h2
              clear h2 h3 h4 H45 H47 HN HG3 c0 b0 b1 b2 b3 b4
              have c0 := HG4.out.cell HC0.out (by simp)
              have b0 := HG4.out.cell HBX.out.1 (by simp)
              have b1 := HG4.out.cell HBX.out.2.1 (by simp)
              have b2 := HG4.out.cell HBX.out.2.2.1 (by simp)
              have b3 := HG4.out.cell HBX.out.2.2.2.1 (by simp)
              have b4 := HG4.out.cell HBX.out.2.2.2.2 (by simp)
              have f0 := (World.frozen?_of_block (a := ⟨gw, 1, none⟩) (HG4.out.block gw HGW.out (by simp))).trans HF0.out
              refine hK _ _ ?_
              clear hK K
              refine take_k (i := 10) (v := ?_) rfl (by kernel_rfl) (by kernel_rfl) (by kernel_rfl) (fun c a w h => hp c _ _ w h) (Or.inl ⟨by rfl, ?_⟩) (fun K hK => ?_)
              rotate_left 1
              · (intro w; go_simp; try with_reducible rfl)
              go_simp
              refine hK _ _ ?_
              clear hK K
              refine take_k (i := 11) (v := ?_) rfl (by kernel_rfl) (by kernel_rfl) (by kernel_rfl) (fun c a w h => hp c _ _ w h) (Or.inl ⟨by rfl, ?_⟩) (fun K hK => ?_)
              rotate_left 1
              · (intro w; go_simp; try with_reducible rfl)
              go_simp
              refine hK _ _ ?_
              clear hK K
              refine wpAny_ready (rs := [12]) (by kernel_rfl) (by simp) ?_
              refine AllReady.cons rfl (fun K hK => ?_) ?_
              · go_simp
                refine hK _ _ ?_
                clear hK K
                refine wpAny_done (by kernel_rfl) ?_ _
                refine hq _ _ _ _ _ _ _ _ _ _ _ _ _ (Lib.hid ⟨only_trans (grown_weak HG4.out _) (only_put (World.grownBy.refl _ _) 1 _), A8, ?_, fun ad e => ?_⟩)
                · exact (HR.out.grown HG4.out).put1 A8 (n + 1) c8 _ (own_rg Cmd.cl_len (by decide) H48.out) (own_caps H48.out).1 (own_caps H48.out).2 (fun ad e => own_far H48.out e HBP.out HGW.out)
                · exact own_ge H48.out e HBP.out
              exact AllReady.nil
            exact AllReady.nil
          exact AllReady.nil
        exact AllReady.nil
      exact AllReady.nil
    refine AllReady.cons rfl (fun K hK => ?_) ?_
    · go_simp
      refine hK _ _ ?_
      clear hK K
      refine wpAny_ready (rs := [5, 8]) (by kernel_rfl) (by simp) ?_
      refine AllReady.cons rfl (fun K hK => ?_) ?_
      · go_simp
        refine hK _ _ ?_
        clear hK K
        refine wpAny_ready (rs := [6, 8]) (by kernel_rfl) (by simp) ?_
        refine AllReady.cons rfl (fun K hK => ?_) ?_
        · refine step_append_rg rfl (.tmp 52) (.tmp 56) 27 rfl bp 33 (.agg #[.int .u16 0, .int .u8 0, .int .i8 0, .int .i8 0, .int .i64 0]) 5 16 Cmd.cl_len Try.underlying27 Try.info33 rfl (by decide) (.slice (some ⟨bp, 0, none⟩) 0 0) 0 [] rfl H40.out W1.heap.size AA n cX all rfl ((HR.out.grown HG1.out).ra.of_len HN0.out) (Cmd.one _) n (by omega) (by unfold maxLen; omega) (by omega) (by have := (H40.out.lt bp rfl).2; omega) ?_
          intro A5 c5 W2 h2 h3 h4
          have HG2 := Lib.hid (grown_over HG1.out h3 HBP.out)
          rw [List.nil_append] at h2
          have H45 := Lib.hid h2
          have HBD : Hid (bp < W2.heap.size) := Lib.hid (by have h1 := HBD.out; have h2 := h3.size; omega)
          clear h2 h3 h4 H40 HG1 c0 b0 b1 b2 b3 b4
          have c0 := HG2.out.cell HC0.out (by simp)
          have b0 := HG2.out.cell HBX.out.1 (by simp)
          have b1 := HG2.out.cell HBX.out.2.1 (by simp)
          have b2 := HG2.out.cell HBX.out.2.2.1 (by simp)
          have b3 := HG2.out.cell HBX.out.2.2.2.1 (by simp)
          have b4 := HG2.out.cell HBX.out.2.2.2.2 (by simp)
          refine hK _ _ ?_
          clear hK K
          refine wpAny_ready (rs := [8]) (by kernel_rfl) (by simp) ?_
          refine AllReady.cons rfl (fun K hK => ?_) ?_
          · go_simp
            have hblk := Blk.new W2 33 #[.int .u16 sq, .int .u8 bt, .int .i8 dx, .int .i8 dy, .int .i64 t]
            have hgr := World.grownBy_alloc W2 (.cells #[.int .u16 sq, .int .u8 bt, .int .i8 dx, .int .i8 dy, .int .i64 t] 33) none
            have HG3 := Lib.hid (only_trans HG2.out hgr)
            have HO' := Lib.hid (own_kept H45.out hgr)
            have HN : Hid (∀ k, (Value.slice A5 n c5).ownBlock = some k → k ≠ W2.heap.size) := Lib.hid (fun k e => by have := (H45.out.lt k e).2; omega)
            obtain ⟨W3, hW⟩ : ∃ W, W2.alloc (.cells #[.int .u16 sq, .int .u8 bt, .int .i8 dx, .int .i8 dy, .int .i64 t] 33) = W := ⟨_, rfl⟩
            obtain ⟨p7, hp7⟩ : ∃ p, W2.heap.size = p := ⟨_, rfl⟩
            rw [hW, hp7] at hblk
            rw [hW] at HG3 HO'
            have HBD : Hid (bp < W3.heap.size) := Lib.hid (by have h1 := HBD.out; have h2 := hgr.size; rw [hW] at h2; omega)
            rw [hp7] at HN
            clear H45
            have H45 := HO'
            clear HO'
            simp only [hW, hp7]
            have H47 := Lib.hid hblk
            clear hblk hgr hW hp7 HG2 c0 b0 b1 b2 b3 b4
            have c0 := HG3.out.cell HC0.out (by simp)
            have b0 := HG3.out.cell HBX.out.1 (by simp)
            have b1 := HG3.out.cell HBX.out.2.1 (by simp)
            have b2 := HG3.out.cell HBX.out.2.2.1 (by simp)
            have b3 := HG3.out.cell HBX.out.2.2.2.1 (by simp)
            have b4 := HG3.out.cell HBX.out.2.2.2.2 (by simp)
            refine hK _ _ ?_
            clear hK K
            refine wpAny_ready (rs := [9]) (by kernel_rfl) (by simp) ?_
            refine AllReady.cons rfl (fun K hK => ?_) ?_
            · refine step_append_rg rfl (.tmp 57) (.tmp 59) 27 rfl bp 33 (.agg #[.int .u16 0, .int .u8 0, .int .i8 0, .int .i8 0, .int .i64 0]) 5 16 Cmd.cl_len Try.underlying27 Try.info33 rfl (by decide) (.slice A5 n c5) n all rfl H45.out (p7 + 1) (some ⟨p7, 0, none⟩) 1 1 [⟨sq, bt, dx, dy, t⟩] rfl (rc_of_blk H47.out) (Cmd.one _) (n + 1) rfl (by unfold maxLen; omega) (by omega) (by have := HBD.out; omega) ?_
              intro A8 c8 W4 h2 h3 h4
              have HG4 := Lib.hid (grown_own0 HG3.out h3 (fun k e => by have := (H45.out.lt k e).1; have := HBP.out; omega))
              have H48 := Lib.hid h2
              clear h2 h3 h4 H45 H47 HN HG3 c0 b0 b1 b2 b3 b4
              have c0 := HG4.out.cell HC0.out (by simp)
              have b0 := HG4.out.cell HBX.out.1 (by simp)
              have b1 := HG4.out.cell HBX.out.2.1 (by simp)
              have b2 := HG4.out.cell HBX.out.2.2.1 (by simp)
              have b3 := HG4.out.cell HBX.out.2.2.2.1 (by simp)
              have b4 := HG4.out.cell HBX.out.2.2.2.2 (by simp)
              have f0 := (World.frozen?_of_block (a := ⟨gw, 1, none⟩) (HG4.out.block gw HGW.out (by simp))).trans HF0.out
              refine hK _ _ ?_
              clear hK K
              refine take_k (i := 10) (v := ?_) rfl (by kernel_rfl) (by kernel_rfl) (by kernel_rfl) (fun c a w h => hp c _ _ w h) (Or.inl ⟨by rfl, ?_⟩) (fun K hK => ?_)
              rotate_left 1
              · (intro w; go_simp; try with_reducible rfl)
              go_simp
              refine hK _ _ ?_
              clear hK K
              refine take_k (i := 11) (v := ?_) rfl (by kernel_rfl) (by kernel_rfl) (by kernel_rfl) (fun c a w h => hp c _ _ w h) (Or.inl ⟨by rfl, ?_⟩) (fun K hK => ?_)
              rotate_left 1
              · (intro w; go_simp; try with_reducible rfl)
              go_simp
              refine hK _ _ ?_
              clear hK K
              refine wpAny_ready (rs := [12]) (by kernel_rfl) (by simp) ?_
              refine AllReady.cons rfl (fun K hK => ?_) ?_
              · go_simp
                refine hK _ _ ?_
                clear hK K
                refine wpAny_done (by kernel_rfl) ?_ _
                refine hq _ _ _ _ _ _ _ _ _ _ _ _ _ (Lib.hid ⟨only_trans (grown_weak HG4.out _) (only_put (World.grownBy.refl _ _) 1 _), A8, ?_, fun ad e => ?_⟩)
                · exact (HR.out.grown HG4.out).put1 A8 (n + 1) c8 _ (own_rg Cmd.cl_len (by decide) H48.out) (own_caps H48.out).1 (own_caps H48.out).2 (fun ad e => own_far H48.out e HBP.out HGW.out)
                · exact own_ge H48.out e HBP.out
              exact AllReady.nil
            exact AllReady.nil
          exact AllReady.nil
        refine AllReady.cons rfl (fun K hK => ?_) ?_
        · go_simp
          have hblk := Blk.new W1 33 #[.int .u16 sq, .int .u8 bt, .int .i8 dx, .int .i8 dy, .int .i64 t]
          have hgr := World.grownBy_alloc W1 (.cells #[.int .u16 sq, .int .u8 bt, .int .i8 dx, .int .i8 dy, .int .i64 t] 33) none
          have HG2 := Lib.hid (only_trans HG1.out hgr)
          have HO' := Lib.hid (own_kept H40.out hgr)
          have HN : Hid (bp ≠ W1.heap.size) := Lib.hid (by have := (H40.out.lt bp rfl).2; omega)
          obtain ⟨W2, hW⟩ : ∃ W, W1.alloc (.cells #[.int .u16 sq, .int .u8 bt, .int .i8 dx, .int .i8 dy, .int .i64 t] 33) = W := ⟨_, rfl⟩
          obtain ⟨p7, hp7⟩ : ∃ p, W1.heap.size = p := ⟨_, rfl⟩
          rw [hW, hp7] at hblk
          rw [hW] at HG2 HO'
          have HBD : Hid (bp < W2.heap.size) := Lib.hid (by have h1 := HBD.out; have h2 := hgr.size; rw [hW] at h2; omega)
          rw [hp7] at HN
          clear H40
          have H40 := HO'
          clear HO'
          simp only [hW, hp7]
          have H47 := Lib.hid hblk
          clear hblk hgr hW hp7 HG1 c0 b0 b1 b2 b3 b4
          have c0 := HG2.out.cell HC0.out (by simp)
          have b0 := HG2.out.cell HBX.out.1 (by simp)
          have b1 := HG2.out.cell HBX.out.2.1 (by simp)
          have b2 := HG2.out.cell HBX.out.2.2.1 (by simp)
          have b3 := HG2.out.cell HBX.out.2.2.2.1 (by simp)
          have b4 := HG2.out.cell HBX.out.2.2.2.2 (by simp)
          refine hK _ _ ?_
          clear hK K
          refine wpAny_ready (rs := [6]) (by kernel_rfl) (by simp) ?_
          refine AllReady.cons rfl (fun K hK => ?_) ?_
          · refine step_append_rg rfl (.tmp 52) (.tmp 56) 27 rfl bp 33 (.agg #[.int .u16 0, .int .u8 0, .int .i8 0, .int .i8 0, .int .i64 0]) 5 16 Cmd.cl_len Try.underlying27 Try.info33 rfl (by decide) (.slice (some ⟨bp, 0, none⟩) 0 0) 0 [] rfl H40.out W2.heap.size AA n cX all rfl ((HR.out.grown HG2.out).ra.of_len HN0.out) (Cmd.one _) n (by omega) (by unfold maxLen; omega) (by omega) (by have := (H40.out.lt bp rfl).2; omega) ?_
            intro A5 c5 W3 h2 h3 h4
            have HG3 := Lib.hid (grown_over HG2.out h3 HBP.out)
            rw [List.nil_append] at h2
            have H45 := Lib.hid h2
            have HBD : Hid (bp < W3.heap.size) := Lib.hid (by have h1 := HBD.out; have h2 := h3.size; omega)
            have H47' := Lib.hid (H47.out.grown h3 (fun e => HN.out (by injection e with e; exact e.symm)))
            have HN' : Hid (∀ k, (Value.slice A5 n c5).ownBlock = some k → k ≠ p7) := Lib.hid (fun k e => by
              have hlt := H47.out.lt
              rcases h4 with h4 | h4
              · rw [h4] at e; injection e with e; rw [← e]; exact HN.out
              · rw [h4] at e; injection e with e; omega)
            clear H47 HN
            have H47 := H47'
            have HN := HN'
            clear H47' HN'
            clear h2 h3 h4 H40 HG2 c0 b0 b1 b2 b3 b4
            have c0 := HG3.out.cell HC0.out (by simp)
            have b0 := HG3.out.cell HBX.out.1 (by simp)
            have b1 := HG3.out.cell HBX.out.2.1 (by simp)
            have b2 := HG3.out.cell HBX.out.2.2.1 (by simp)
            have b3 := HG3.out.cell HBX.out.2.2.2.1 (by simp)
            have b4 := HG3.out.cell HBX.out.2.2.2.2 (by simp)
            refine hK _ _ ?_
            clear hK K
            refine wpAny_ready (rs := [9]) (by kernel_rfl) (by simp) ?_
            refine AllReady.cons rfl (fun K hK => ?_) ?_
            · refine step_append_rg rfl (.tmp 57) (.tmp 59) 27 rfl bp 33 (.agg #[.int .u16 0, .int .u8 0, .int .i8 0, .int .i8 0, .int .i64 0]) 5 16 Cmd.cl_len Try.underlying27 Try.info33 rfl (by decide) (.slice A5 n c5) n all rfl H45.out (p7 + 1) (some ⟨p7, 0, none⟩) 1 1 [⟨sq, bt, dx, dy, t⟩] rfl (rc_of_blk H47.out) (Cmd.one _) (n + 1) rfl (by unfold maxLen; omega) (by omega) (by have := HBD.out; omega) ?_
              intro A8 c8 W4 h2 h3 h4
              have HG4 := Lib.hid (grown_own0 HG3.out h3 (fun k e => by have := (H45.out.lt k e).1; have := HBP.out; omega))
              have H48 := Lib.hid h2
              clear h2 h3 h4 H45 H47 HN HG3 c0 b0 b1 b2 b3 b4
              have c0 := HG4.out.cell HC0.out (by simp)
              have b0 := HG4.out.cell HBX.out.1 (by simp)
              have b1 := HG4.out.cell HBX.out.2.1 (by simp)
              have b2 := HG4.out.cell HBX.out.2.2.1 (by simp)
              have b3 := HG4.out.cell HBX.out.2.2.2.1 (by simp)
              have b4 := HG4.out.cell HBX.out.2.2.2.2 (by simp)
              have f0 := (World.frozen?_of_block (a := ⟨gw, 1, none⟩) (HG4.out.block gw HGW.out (by simp))).trans HF0.out
              refine hK _ _ ?_
              clear hK K
              refine take_k (i := 10) (v := ?_) rfl (by kernel_rfl) (by kernel_rfl) (by kernel_rfl) (fun c a w h => hp c _ _ w h) (Or.inl ⟨by rfl, ?_⟩) (fun K hK => ?_)
              rotate_left 1
              · (intro w; go_simp; try with_reducible rfl)
              go_simp
              refine hK _ _ ?_
              clear hK K
              refine take_k (i := 11) (v := ?_) rfl (by kernel_rfl) (by kernel_rfl) (by kernel_rfl) (fun c a w h => hp c _ _ w h) (Or.inl ⟨by rfl, ?_⟩) (fun K hK => ?_)
              rotate_left 1
              · (intro w; go_simp; try with_reducible rfl)
              go_simp
              refine hK _ _ ?_
              clear hK K
              refine wpAny_ready (rs := [12]) (by kernel_rfl) (by simp) ?_
              refine AllReady.cons rfl (fun K hK => ?_) ?_
              · go_simp
                refine hK _ _ ?_
                clear hK K
                refine wpAny_done (by kernel_rfl) ?_ _
                refine hq _ _ _ _ _ _ _ _ _ _ _ _ _ (Lib.hid ⟨only_trans (grown_weak HG4.out _) (only_put (World.grownBy.refl _ _) 1 _), A8, ?_, fun ad e => ?_⟩)
                · exact (HR.out.grown HG4.out).put1 A8 (n + 1) c8 _ (own_rg Cmd.cl_len (by decide) H48.out) (own_caps H48.out).1 (own_caps H48.out).2 (fun ad e => own_far H48.out e HBP.out HGW.out)
                · exact own_ge H48.out e HBP.out
              exact AllReady.nil
            exact AllReady.nil
          exact AllReady.nil
        exact AllReady.nil
      refine AllReady.cons rfl (fun K hK => ?_) ?_
      · go_simp
        have hblk := Blk.new W1 33 #[.int .u16 sq, .int .u8 bt, .int .i8 dx, .int .i8 dy, .int .i64 t]
        have hgr := World.grownBy_alloc W1 (.cells #[.int .u16 sq, .int .u8 bt, .int .i8 dx, .int .i8 dy, .int .i64 t] 33) none
        have HG2 := Lib.hid (only_trans HG1.out hgr)
        have HO' := Lib.hid (own_kept H40.out hgr)
        have HN : Hid (bp ≠ W1.heap.size) := Lib.hid (by have := (H40.out.lt bp rfl).2; omega)
        obtain ⟨W2, hW⟩ : ∃ W, W1.alloc (.cells #[.int .u16 sq, .int .u8 bt, .int .i8 dx, .int .i8 dy, .int .i64 t] 33) = W := ⟨_, rfl⟩
        obtain ⟨p7, hp7⟩ : ∃ p, W1.heap.size = p := ⟨_, rfl⟩
        rw [hW, hp7] at hblk
        rw [hW] at HG2 HO'
        have HBD : Hid (bp < W2.heap.size) := Lib.hid (by have h1 := HBD.out; have h2 := hgr.size; rw [hW] at h2; omega)
        rw [hp7] at HN
        clear H40
        have H40 := HO'
        clear HO'
        simp only [hW, hp7]
        have H47 := Lib.hid hblk
        clear hblk hgr hW hp7 HG1 c0 b0 b1 b2 b3 b4
        have c0 := HG2.out.cell HC0.out (by simp)
        have b0 := HG2.out.cell HBX.out.1 (by simp)
        have b1 := HG2.out.cell HBX.out.2.1 (by simp)
        have b2 := HG2.out.cell HBX.out.2.2.1 (by simp)
        have b3 := HG2.out.cell HBX.out.2.2.2.1 (by simp)
        have b4 := HG2.out.cell HBX.out.2.2.2.2 (by simp)
        refine hK _ _ ?_
        clear hK K
        refine wpAny_ready (rs := [5]) (by kernel_rfl) (by simp) ?_
        refine AllReady.cons rfl (fun K hK => ?_) ?_
        · go_simp
          refine hK _ _ ?_
          clear hK K
          refine wpAny_ready (rs := [6]) (by kernel_rfl) (by simp) ?_
          refine AllReady.cons rfl (fun K hK => ?_) ?_
          · refine step_append_rg rfl (.tmp 52) (.tmp 56) 27 rfl bp 33 (.agg #[.int .u16 0, .int .u8 0, .int .i8 0, .int .i8 0, .int .i64 0]) 5 16 Cmd.cl_len Try.underlying27 Try.info33 rfl (by decide) (.slice (some ⟨bp, 0, none⟩) 0 0) 0 [] rfl H40.out W2.heap.size AA n cX all rfl ((HR.out.grown HG2.out).ra.of_len HN0.out) (Cmd.one _) n (by omega) (by unfold maxLen; omega) (by omega) (by have := (H40.out.lt bp rfl).2; omega) ?_
            intro A5 c5 W3 h2 h3 h4
            have HG3 := Lib.hid (grown_over HG2.out h3 HBP.out)
            rw [List.nil_append] at h2
            have H45 := Lib.hid h2
            have HBD : Hid (bp < W3.heap.size) := Lib.hid (by have h1 := HBD.out; have h2 := h3.size; omega)
            have H47' := Lib.hid (H47.out.grown h3 (fun e => HN.out (by injection e with e; exact e.symm)))
            have HN' : Hid (∀ k, (Value.slice A5 n c5).ownBlock = some k → k ≠ p7) := Lib.hid (fun k e => by
              have hlt := H47.out.lt
              rcases h4 with h4 | h4
              · rw [h4] at e; injection e with e; rw [← e]; exact HN.out
              · rw [h4] at e; injection e with e; omega)
            clear H47 HN
            have H47 := H47'
            have HN := HN'
            clear H47' HN'
            clear h2 h3 h4 H40 HG2 c0 b0 b1 b2 b3 b4
            have c0 := HG3.out.cell HC0.out (by simp)
            have b0 := HG3.out.cell HBX.out.1 (by simp)
            have b1 := HG3.out.cell HBX.out.2.1 (by simp)
            have b2 := HG3.out.cell HBX.out.2.2.1 (by simp)
            have b3 := HG3.out.cell HBX.out.2.2.2.1 (by simp)
            have b4 := HG3.out.cell HBX.out.2.2.2.2 (by simp)
            refine hK _ _ ?_
            clear hK K
            refine wpAny_ready (rs := [9]) (by kernel_rfl) (by simp) ?_
            refine AllReady.cons rfl (fun K hK => ?_) ?_
            · refine step_append_rg rfl (.tmp 57) (.tmp 59) 27 rfl bp 33 (.agg #[.int .u16 0, .int .u8 0, .int .i8 0, .int .i8 0, .int .i64 0]) 5 16 Cmd.cl_len Try.underlying27 Try.info33 rfl (by decide) (.slice A5 n c5) n all rfl H45.out (p7 + 1) (some ⟨p7, 0, none⟩) 1 1 [⟨sq, bt, dx, dy, t⟩] rfl (rc_of_blk H47.out) (Cmd.one _) (n + 1) rfl (by unfold maxLen; omega) (by omega) (by have := HBD.out; omega) ?_
              intro A8 c8 W4 h2 h3 h4
              have HG4 := Lib.hid (grown_own0 HG3.out h3 (fun k e => by have := (H45.out.lt k e).1; have := HBP.out; omega))
              have H48 := Lib.hid h2
              clear h2 h3 h4 H45 H47 HN HG3 c0 b0 b1 b2 b3 b4
              have c0 := HG4.out.cell HC0.out (by simp)
              have b0 := HG4.out.cell HBX.out.1 (by simp)
              have b1 := HG4.out.cell HBX.out.2.1 (by simp)
              have b2 := HG4.out.cell HBX.out.2.2.1 (by simp)
              have b3 := HG4.out.cell HBX.out.2.2.2.1 (by simp)
              have b4 := HG4.out.cell HBX.out.2.2.2.2 (by simp)
              have f0 := (World.frozen?_of_block (a := ⟨gw, 1, none⟩) (HG4.out.block gw HGW.out (by simp))).trans HF0.out
              refine hK _ _ ?_
              clear hK K
              refine take_k (i := 10) (v := ?_) rfl (by kernel_rfl) (by kernel_rfl) (by kernel_rfl) (fun c a w h => hp c _ _ w h) (Or.inl ⟨by rfl, ?_⟩) (fun K hK => ?_)
              rotate_left 1
              · (intro w; go_simp; try with_reducible rfl)
              go_simp
              refine hK _ _ ?_
              clear hK K
              refine take_k (i := 11) (v := ?_) rfl (by kernel_rfl) (by kernel_rfl) (by kernel_rfl) (fun c a w h => hp c _ _ w h) (Or.inl ⟨by rfl, ?_⟩) (fun K hK => ?_)
              rotate_left 1
              · (intro w; go_simp; try with_reducible rfl)
              go_simp
              refine hK _ _ ?_
              clear hK K
              refine wpAny_ready (rs := [12]) (by kernel_rfl) (by simp) ?_
              refine AllReady.cons rfl (fun K hK => ?_) ?_
              · go_simp
                refine hK _ _ ?_
                clear hK K
                refine wpAny_done (by kernel_rfl) ?_ _
                refine hq _ _ _ _ _ _ _ _ _ _ _ _ _ (Lib.hid ⟨only_trans (grown_weak HG4.out _) (only_put (World.grownBy.refl _ _) 1 _), A8, ?_, fun ad e => ?_⟩)
                · exact (HR.out.grown HG4.out).put1 A8 (n + 1) c8 _ (own_rg Cmd.cl_len (by decide) H48.out) (own_caps H48.out).1 (own_caps H48.out).2 (fun ad e => own_far H48.out e HBP.out HGW.out)
                · exact own_ge H48.out e HBP.out
              exact AllReady.nil
            exact AllReady.nil
          exact AllReady.nil
        exact AllReady.nil
      exact AllReady.nil
    exact AllReady.nil
  refine AllReady.cons rfl (fun K hK => ?_) ?_
  · go_simp
    refine hK _ _ ?_
    clear hK K
    refine wpAny_ready (rs := [1, 7]) (by kernel_rfl) (by simp) ?_
    refine AllReady.cons rfl (fun K hK => ?_) ?_
    · go_simp
      have hown := World.ownsRow_lit (e := 33) (size := 5) W0 #[] 0 (Nat.le_refl _) (by decide) rfl
      have hgr := World.grownBy_alloc W0 (.cells #[] 33) none
      have HG1 := Lib.hid (only_trans HG0.out hgr)
      have HBP : Hid (w.heap.size ≤ W0.heap.size) := Lib.hid HG0.out.size
      obtain ⟨W1, hW⟩ : ∃ W, W0.alloc (.cells #[] 33) = W := ⟨_, rfl⟩
      obtain ⟨bp, hbp⟩ : ∃ bp, W0.heap.size = bp := ⟨_, rfl⟩
      rw [hW, hbp] at hown
      rw [hW] at HG1
      rw [hbp] at HBP
      simp only [hW, hbp]
      have H40 := Lib.hid hown
      have HBD : Hid (bp < W1.heap.size) := Lib.hid (hown.lt bp rfl).2
      clear hown hgr hW hbp HG0 c0 b0 b1 b2 b3 b4
      have c0 := HG1.out.cell HC0.out (by simp)
      have b0 := HG1.out.cell HBX.out.1 (by simp)
      have b1 := HG1.out.cell HBX.out.2.1 (by simp)
      have b2 := HG1.out.cell HBX.out.2.2.1 (by simp)
      have b3 := HG1.out.cell HBX.out.2.2.2.1 (by simp)
      have b4 := HG1.out.cell HBX.out.2.2.2.2 (by simp)
      refine hK _ _ ?_
      clear hK K
      refine wpAny_ready (rs := [6, 7]) (by kernel_rfl) (by simp) ?_
      refine AllReady.cons rfl (fun K hK => ?_) ?_
      · refine step_append_rg rfl (.tmp 52) (.tmp 56) 27 rfl bp 33 (.agg #[.int .u16 0, .int .u8 0, .int .i8 0, .int .i8 0, .int .i64 0]) 5 16 Cmd.cl_len Try.underlying27 Try.info33 rfl (by decide) (.slice (some ⟨bp, 0, none⟩) 0 0) 0 [] rfl H40.out W1.heap.size AA n cX all rfl ((HR.out.grown HG1.out).ra.of_len HN0.out) (Cmd.one _) n (by omega) (by unfold maxLen; omega) (by omega) (by have := (H40.out.lt bp rfl).2; omega) ?_
        intro A5 c5 W2 h2 h3 h4
        have HG2 := Lib.hid (grown_over HG1.out h3 HBP.out)
        rw [List.nil_append] at h2
        have H45 := Lib.hid h2
        have HBD : Hid (bp < W2.heap.size) := Lib.hid (by have h1 := HBD.out; have h2 := h3.size; omega)
        clear h2 h3 h4 H40 HG1 c0 b0 b1 b2 b3 b4
        have c0 := HG2.out.cell HC0.out (by simp)
        have b0 := HG2.out.cell HBX.out.1 (by simp)
        have b1 := HG2.out.cell HBX.out.2.1 (by simp)
        have b2 := HG2.out.cell HBX.out.2.2.1 (by simp)
        have b3 := HG2.out.cell HBX.out.2.2.2.1 (by simp)
        have b4 := HG2.out.cell HBX.out.2.2.2.2 (by simp)
        refine hK _ _ ?_
        clear hK K
        refine wpAny_ready (rs := [7]) (by kernel_rfl) (by simp) ?_
        refine AllReady.cons rfl (fun K hK => ?_) ?_
        · go_simp
          refine hK _ _ ?_
          clear hK K
          refine wpAny_ready (rs := [8]) (by kernel_rfl) (by simp) ?_
          refine AllReady.cons rfl (fun K hK => ?_) ?_
          · go_simp
            have hblk := Blk.new W2 33 #[.int .u16 sq, .int .u8 bt, .int .i8 dx, .int .i8 dy, .int .i64 t]
            have hgr := World.grownBy_alloc W2 (.cells #[.int .u16 sq, .int .u8 bt, .int .i8 dx, .int .i8 dy, .int .i64 t] 33) none
            have HG3 := Lib.hid (only_trans HG2.out hgr)
            have HO' := Lib.hid (own_kept H45.out hgr)
            have HN : Hid (∀ k, (Value.slice A5 n c5).ownBlock = some k → k ≠ W2.heap.size) := Lib.hid (fun k e => by have := (H45.out.lt k e).2; omega)
            obtain ⟨W3, hW⟩ : ∃ W, W2.alloc (.cells #[.int .u16 sq, .int .u8 bt, .int .i8 dx, .int .i8 dy, .int .i64 t] 33) = W := ⟨_, rfl⟩
            obtain ⟨p7, hp7⟩ : ∃ p, W2.heap.size = p := ⟨_, rfl⟩
            rw [hW, hp7] at hblk
            rw [hW] at HG3 HO'
            have HBD : Hid (bp < W3.heap.size) := Lib.hid (by have h1 := HBD.out; have h2 := hgr.size; rw [hW] at h2; omega)
            rw [hp7] at HN
            clear H45
            have H45 := HO'
            clear HO'
            simp only [hW, hp7]
            have H47 := Lib.hid hblk
            clear hblk hgr hW hp7 HG2 c0 b0 b1 b2 b3 b4
            have c0 := HG3.out.cell HC0.out (by simp)
            have b0 := HG3.out.cell HBX.out.1 (by simp)
            have b1 := HG3.out.cell HBX.out.2.1 (by simp)
            have b2 := HG3.out.cell HBX.out.2.2.1 (by simp)
            have b3 := HG3.out.cell HBX.out.2.2.2.1 (by simp)
            have b4 := HG3.out.cell HBX.out.2.2.2.2 (by simp)
            refine hK _ _ ?_
            clear hK K
            refine wpAny_ready (rs := [9]) (by kernel_rfl) (by simp) ?_
            refine AllReady.cons rfl (fun K hK => ?_) ?_
            · refine step_append_rg rfl (.tmp 57) (.tmp 59) 27 rfl bp 33 (.agg #[.int .u16 0, .int .u8 0, .int .i8 0, .int .i8 0, .int .i64 0]) 5 16 Cmd.cl_len Try.underlying27 Try.info33 rfl (by decide) (.slice A5 n c5) n all rfl H45.out (p7 + 1) (some ⟨p7, 0, none⟩) 1 1 [⟨sq, bt, dx, dy, t⟩] rfl (rc_of_blk H47.out) (Cmd.one _) (n + 1) rfl (by unfold maxLen; omega) (by omega) (by have := HBD.out; omega) ?_
              intro A8 c8 W4 h2 h3 h4
              have HG4 := Lib.hid (grown_own0 HG3.out h3 (fun k e => by have := (H45.out.lt k e).1; have := HBP.out; omega))
              have H48 := Lib.hid h2
              clear h2 h3 h4 H45 H47 HN HG3 c0 b0 b1 b2 b3 b4
              have c0 := HG4.out.cell HC0.out (by simp)
              have b0 := HG4.out.cell HBX.out.1 (by simp)
              have b1 := HG4.out.cell HBX.out.2.1 (by simp)
              have b2 := HG4.out.cell HBX.out.2.2.1 (by simp)
              have b3 := HG4.out.cell HBX.out.2.2.2.1 (by simp)
              have b4 := HG4.out.cell HBX.out.2.2.2.2 (by simp)
              have f0 := (World.frozen?_of_block (a := ⟨gw, 1, none⟩) (HG4.out.block gw HGW.out (by simp))).trans HF0.out
              refine hK _ _ ?_
              clear hK K
              refine take_k (i := 10) (v := ?_) rfl (by kernel_rfl) (by kernel_rfl) (by kernel_rfl) (fun c a w h => hp c _ _ w h) (Or.inl ⟨by rfl, ?_⟩) (fun K hK => ?_)
              rotate_left 1
              · (intro w; go_simp; try with_reducible rfl)
              go_simp
              refine hK _ _ ?_
              clear hK K
              refine take_k (i := 11) (v := ?_) rfl (by kernel_rfl) (by kernel_rfl) (by kernel_rfl) (fun c a w h => hp c _ _ w h) (Or.inl ⟨by rfl, ?_⟩) (fun K hK => ?_)
              rotate_left 1
              · (intro w; go_simp; try with_reducible rfl)
              go_simp
              refine hK _ _ ?_
              clear hK K
              refine wpAny_ready (rs := [12]) (by kernel_rfl) (by simp) ?_
              refine AllReady.cons rfl (fun K hK => ?_) ?_
              · go_simp
                refine hK _ _ ?_
                clear hK K
                refine wpAny_done (by kernel_rfl) ?_ _
                refine hq _ _ _ _ _ _ _ _ _ _ _ _ _ (Lib.hid ⟨only_trans (grown_weak HG4.out _) (only_put (World.grownBy.refl _ _) 1 _), A8, ?_, fun ad e => ?_⟩)
                · exact (HR.out.grown HG4.out).put1 A8 (n + 1) c8 _ (own_rg Cmd.cl_len (by decide) H48.out) (own_caps H48.out).1 (own_caps H48.out).2 (fun ad e => own_far H48.out e HBP.out HGW.out)
                · exact own_ge H48.out e HBP.out
              exact AllReady.nil
            exact AllReady.nil
          exact AllReady.nil
        exact AllReady.nil
      refine AllReady.cons rfl (fun K hK => ?_) ?_
      · go_simp
        refine hK _ _ ?_
        clear hK K
        refine wpAny_ready (rs := [6, 8]) (by kernel_rfl) (by simp) ?_
        refine AllReady.cons rfl (fun K hK => ?_) ?_
        · refine step_append_rg rfl (.tmp 52) (.tmp 56) 27 rfl bp 33 (.agg #[.int .u16 0, .int .u8 0, .int .i8 0, .int .i8 0, .int .i64 0]) 5 16 Cmd.cl_len Try.underlying27 Try.info33 rfl (by decide) (.slice (some ⟨bp, 0, none⟩) 0 0) 0 [] rfl H40.out W1.heap.size AA n cX all rfl ((HR.out.grown HG1.out).ra.of_len HN0.out) (Cmd.one _) n (by omega) (by unfold maxLen; omega) (by omega) (by have := (H40.out.lt bp rfl).2; omega) ?_
          intro A5 c5 W2 h2 h3 h4
          have HG2 := Lib.hid (grown_over HG1.out h3 HBP.out)
          rw [List.nil_append] at h2
          have H45 := Lib.hid h2
          have HBD : Hid (bp < W2.heap.size) := Lib.hid (by have h1 := HBD.out; have h2 := h3.size; omega)
          clear h2 h3 h4 H40 HG1 c0 b0 b1 b2 b3 b4
          have c0 := HG2.out.cell HC0.out (by simp)
          have b0 := HG2.out.cell HBX.out.1 (by simp)
          have b1 := HG2.out.cell HBX.out.2.1 (by simp)
          have b2 := HG2.out.cell HBX.out.2.2.1 (by simp)
          have b3 := HG2.out.cell HBX.out.2.2.2.1 (by simp)
          have b4 := HG2.out.cell HBX.out.2.2.2.2 (by simp)
          refine hK _ _ ?_
          clear hK K
          refine wpAny_ready (rs := [8]) (by kernel_rfl) (by simp) ?_
          refine AllReady.cons rfl (fun K hK => ?_) ?_
          · go_simp
            have hblk := Blk.new W2 33 #[.int .u16 sq, .int .u8 bt, .int .i8 dx, .int .i8 dy, .int .i64 t]
            have hgr := World.grownBy_alloc W2 (.cells #[.int .u16 sq, .int .u8 bt, .int .i8 dx, .int .i8 dy, .int .i64 t] 33) none
            have HG3 := Lib.hid (only_trans HG2.out hgr)
            have HO' := Lib.hid (own_kept H45.out hgr)
            have HN : Hid (∀ k, (Value.slice A5 n c5).ownBlock = some k → k ≠ W2.heap.size) := Lib.hid (fun k e => by have := (H45.out.lt k e).2; omega)
            obtain ⟨W3, hW⟩ : ∃ W, W2.alloc (.cells #[.int .u16 sq, .int .u8 bt, .int .i8 dx, .int .i8 dy, .int .i64 t] 33) = W := ⟨_, rfl⟩
            obtain ⟨p7, hp7⟩ : ∃ p, W2.heap.size = p := ⟨_, rfl⟩
            rw [hW, hp7] at hblk
            rw [hW] at HG3 HO'
            have HBD : Hid (bp < W3.heap.size) := Lib.hid (by have h1 := HBD.out; have h2 := hgr.size; rw [hW] at h2; omega)
            rw [hp7] at HN
            clear H45
            have H45 := HO'
            clear HO'
            simp only [hW, hp7]
            have H47 := Lib.hid hblk
            clear hblk hgr hW hp7 HG2 c0 b0 b1 b2 b3 b4
            have c0 := HG3.out.cell HC0.out (by simp)
            have b0 := HG3.out.cell HBX.out.1 (by simp)
            have b1 := HG3.out.cell HBX.out.2.1 (by simp)
            have b2 := HG3.out.cell HBX.out.2.2.1 (by simp)
            have b3 := HG3.out.cell HBX.out.2.2.2.1 (by simp)
            have b4 := HG3.out.cell HBX.out.2.2.2.2 (by simp)
            refine hK _ _ ?_
            clear hK K
            refine wpAny_ready (rs := [9]) (by kernel_rfl) (by simp) ?_
            refine AllReady.cons rfl (fun K hK => ?_) ?_
            · refine step_append_rg rfl (.tmp 57) (.tmp 59) 27 rfl bp 33 (.agg #[.int .u16 0, .int .u8 0, .int .i8 0, .int .i8 0, .int .i64 0]) 5 16 Cmd.cl_len Try.underlying27 Try.info33 rfl (by decide) (.slice A5 n c5) n all rfl H45.out (p7 + 1) (some ⟨p7, 0, none⟩) 1 1 [⟨sq, bt, dx, dy, t⟩] rfl (rc_of_blk H47.out) (Cmd.one _) (n + 1) rfl (by unfold maxLen; omega) (by omega) (by have := HBD.out; omega) ?_
              intro A8 c8 W4 h2 h3 h4
              have HG4 := Lib.hid (grown_own0 HG3.out h3 (fun k e => by have := (H45.out.lt k e).1; have := HBP.out; omega))
              have H48 := Lib.hid h2
              clear h2 h3 h4 H45 H47 HN HG3 c0 b0 b1 b2 b3 b4
              have c0 := HG4.out.cell HC0.out (by simp)
              have b0 := HG4.out.cell HBX.out.1 (by simp)
              have b1 := HG4.out.cell HBX.out.2.1 (by simp)
              have b2 := HG4.out.cell HBX.out.2.2.1 (by simp)
              have b3 := HG4.out.cell HBX.out.2.2.2.1 (by simp)
              have b4 := HG4.out.cell HBX.out.2.2.2.2 (by simp)
              have f0 := (World.frozen?_of_block (a := ⟨gw, 1, none⟩) (HG4.out.block gw HGW.out (by simp))).trans HF0.out
              refine hK _ _ ?_
              clear hK K
              refine take_k (i := 10) (v := ?_) rfl (by kernel_rfl) (by kernel_rfl) (by kernel_rfl) (fun c a w h => hp c _ _ w h) (Or.inl ⟨by rfl, ?_⟩) (fun K hK => ?_)
              rotate_left 1
              · (intro w; go_simp; try with_reducible rfl)
              go_simp
              refine hK _ _ ?_
              clear hK K
              refine take_k (i := 11) (v := ?_) rfl (by kernel_rfl) (by kernel_rfl) (by kernel_rfl) (fun c a w h => hp c _ _ w h) (Or.inl ⟨by rfl, ?_⟩) (fun K hK => ?_)
              rotate_left 1
              · (intro w; go_simp; try with_reducible rfl)
              go_simp
              refine hK _ _ ?_
              clear hK K
              refine wpAny_ready (rs := [12]) (by kernel_rfl) (by simp) ?_
              refine AllReady.cons rfl (fun K hK => ?_) ?_
              · go_simp
                refine hK _ _ ?_
                clear hK K
                refine wpAny_done (by kernel_rfl) ?_ _
                refine hq _ _ _ _ _ _ _ _ _ _ _ _ _ (Lib.hid ⟨only_trans (grown_weak HG4.out _) (only_put (World.grownBy.refl _ _) 1 _), A8, ?_, fun ad e => ?_⟩)
                · exact (HR.out.grown HG4.out).put1 A8 (n + 1) c8 _ (own_rg Cmd.cl_len (by decide) H48.out) (own_caps H48.out).1 (own_caps H48.out).2 (fun ad e => own_far H48.out e HBP.out HGW.out)
                · exact own_ge H48.out e HBP.out
              exact AllReady.nil
            exact AllReady.nil
          exact AllReady.nil
        refine AllReady.cons rfl (fun K hK => ?_) ?_
        · go_simp
          have hblk := Blk.new W1 33 #[.int .u16 sq, .int .u8 bt, .int .i8 dx, .int .i8 dy, .int .i64 t]
          have hgr := World.grownBy_alloc W1 (.cells #[.int .u16 sq, .int .u8 bt, .int .i8 dx, .int .i8 dy, .int .i64 t] 33) none
          have HG2 := Lib.hid (only_trans HG1.out hgr)
          have HO' := Lib.hid (own_kept H40.out hgr)
          have HN : Hid (bp ≠ W1.heap.size) := Lib.hid (by have := (H40.out.lt bp rfl).2; omega)
          obtain ⟨W2, hW⟩ : ∃ W, W1.alloc (.cells #[.int .u16 sq, .int .u8 bt, .int .i8 dx, .int .i8 dy, .int .i64 t] 33) = W := ⟨_, rfl⟩
          obtain ⟨p7, hp7⟩ : ∃ p, W1.heap.size = p := ⟨_, rfl⟩
          rw [hW, hp7] at hblk
          rw [hW] at HG2 HO'
          have HBD : Hid (bp < W2.heap.size) := Lib.hid (by have h1 := HBD.out; have h2 := hgr.size; rw [hW] at h2; omega)
          rw [hp7] at HN
          clear H40
          have H40 := HO'
          clear HO'
          simp only [hW, hp7]
          have H47 := Lib.hid hblk
          clear hblk hgr hW hp7 HG1 c0 b0 b1 b2 b3 b4
          have c0 := HG2.out.cell HC0.out (by simp)
          have b0 := HG2.out.cell HBX.out.1 (by simp)
          have b1 := HG2.out.cell HBX.out.2.1 (by simp)
          have b2 := HG2.out.cell HBX.out.2.2.1 (by simp)
          have b3 := HG2.out.cell HBX.out.2.2.2.1 (by simp)
          have b4 := HG2.out.cell HBX.out.2.2.2.2 (by simp)
          refine hK _ _ ?_
          clear hK K
          refine wpAny_ready (rs := [6]) (by kernel_rfl) (by simp) ?_
          refine AllReady.cons rfl (fun K hK => ?_) ?_
          · refine step_append_rg rfl (.tmp 52) (.tmp 56) 27 rfl bp 33 (.agg #[.int .u16 0, .int .u8 0, .int .i8 0, .int .i8 0, .int .i64 0]) 5 16 Cmd.cl_len Try.underlying27 Try.info33 rfl (by decide) (.slice (some ⟨bp, 0, none⟩) 0 0) 0 [] rfl H40.out W2.heap.size AA n cX all rfl ((HR.out.grown HG2.out).ra.of_len HN0.out) (Cmd.one _) n (by omega) (by unfold maxLen; omega) (by omega) (by have := (H40.out.lt bp rfl).2; omega) ?_
            intro A5 c5 W3 h2 h3 h4
            have HG3 := Lib.hid (grown_over HG2.out h3 HBP.out)
            rw [List.nil_append] at h2
            have H45 := Lib.hid h2
            have HBD : Hid (bp < W3.heap.size) := Lib.hid (by have h1 := HBD.out; have h2 := h3.size; omega)
            have H47' := Lib.hid (H47.out.grown h3 (fun e => HN.out (by injection e with e; exact e.symm)))
            have HN' : Hid (∀ k, (Value.slice A5 n c5).ownBlock = some k → k ≠ p7) := Lib.hid (fun k e => by
              have hlt := H47.out.lt
              rcases h4 with h4 | h4
              · rw [h4] at e; injection e with e; rw [← e]; exact HN.out
              · rw [h4] at e; injection e with e; omega)
            clear H47 HN
            have H47 := H47'
            have HN := HN'
            clear H47' HN'
            clear h2 h3 h4 H40 HG2 c0 b0 b1 b2 b3 b4
            have c0 := HG3.out.cell HC0.out (by simp)
            have b0 := HG3.out.cell HBX.out.1 (by simp)
            have b1 := HG3.out.cell HBX.out.2.1 (by simp)
            have b2 := HG3.out.cell HBX.out.2.2.1 (by simp)
            have b3 := HG3.out.cell HBX.out.2.2.2.1 (by simp)
            have b4 := HG3.out.cell HBX.out.2.2.2.2 (by simp)
            refine hK _ _ ?_
            clear hK K
            refine wpAny_ready (rs := [9]) (by kernel_rfl) (by simp) ?_
            refine AllReady.cons rfl (fun K hK => ?_) ?_
            · refine step_append_rg rfl (.tmp 57) (.tmp 59) 27 rfl bp 33 (.agg #[.int .u16 0, .int .u8 0, .int .i8 0, .int .i8 0, .int .i64 0]) 5 16 Cmd.cl_len Try.underlying27 Try.info33 rfl (by decide) (.slice A5 n c5) n all rfl H45.out (p7 + 1) (some ⟨p7, 0, none⟩) 1 1 [⟨sq, bt, dx, dy, t⟩] rfl (rc_of_blk H47.out) (Cmd.one _) (n + 1) rfl (by unfold maxLen; omega) (by omega) (by have := HBD.out; omega) ?_
              intro A8 c8 W4 h2 h3 h4
              have HG4 := Lib.hid (grown_own0 HG3.out h3 (fun k e => by have := (H45.out.lt k e).1; have := HBP.out; omega))
              have H48 := Lib.hid h2
              clear h2 h3 h4 H45 H47 HN HG3 c0 b0 b1 b2 b3 b4
              have c0 := HG4.out.cell HC0.out (by simp)
              have b0 := HG4.out.cell HBX.out.1 (by simp)
              have b1 := HG4.out.cell HBX.out.2.1 (by simp)
              have b2 := HG4.out.cell HBX.out.2.2.1 (by simp)
              have b3 := HG4.out.cell HBX.out.2.2.2.1 (by simp)
              have b4 := HG4.out.cell HBX.out.2.2.2.2 (by simp)
              have f0 := (World.frozen?_of_block (a := ⟨gw, 1, none⟩) (HG4.out.block gw HGW.out (by simp))).trans HF0.out
              refine hK _ _ ?_
              clear hK K
              refine take_k (i := 10) (v := ?_) rfl (by kernel_rfl) (by kernel_rfl) (by kernel_rfl) (fun c a w h => hp c _ _ w h) (Or.inl ⟨by rfl, ?_⟩) (fun K hK => ?_)
              rotate_left 1
              · (intro w; go_simp; try with_reducible rfl)
              go_simp
              refine hK _ _ ?_
              clear hK K
              refine take_k (i := 11) (v := ?_) rfl (by kernel_rfl) (by kernel_rfl) (by kernel_rfl) (fun c a w h => hp c _ _ w h) (Or.inl ⟨by rfl, ?_⟩) (fun K hK => ?_)
              rotate_left 1
              · (intro w; go_simp; try with_reducible rfl)
              go_simp
              refine hK _ _ ?_
              clear hK K
              refine wpAny_ready (rs := [12]) (by kernel_rfl) (by simp) ?_
              refine AllReady.cons rfl (fun K hK => ?_) ?_
              · go_simp
                refine hK _ _ ?_
                clear hK K
                refine wpAny_done (by kernel_rfl) ?_ _
                refine hq _ _ _ _ _ _ _ _ _ _ _ _ _ (Lib.hid ⟨only_trans (grown_weak HG4.out _) (only_put (World.grownBy.refl _ _) 1 _), A8, ?_, fun ad e => ?_⟩)
                · exact (HR.out.grown HG4.out).put1 A8 (n + 1) c8 _ (own_rg Cmd.cl_len (by decide) H48.out) (own_caps H48.out).1 (own_caps H48.out).2 (fun ad e => own_far H48.out e HBP.out HGW.out)
                · exact own_ge H48.out e HBP.out
              exact AllReady.nil
            exact AllReady.nil
          exact AllReady.nil
        exact AllReady.nil
      exact AllReady.nil
    refine AllReady.cons rfl (fun K hK => ?_) ?_
    · go_simp
      refine hK _ _ ?_
      clear hK K
      refine wpAny_ready (rs := [1, 8]) (by kernel_rfl) (by simp) ?_
      refine AllReady.cons rfl (fun K hK => ?_) ?_
      · go_simp
        have hown := World.ownsRow_lit (e := 33) (size := 5) W0 #[] 0 (Nat.le_refl _) (by decide) rfl
        have hgr := World.grownBy_alloc W0 (.cells #[] 33) none
        have HG1 := Lib.hid (only_trans HG0.out hgr)
        have HBP : Hid (w.heap.size ≤ W0.heap.size) := Lib.hid HG0.out.size
        obtain ⟨W1, hW⟩ : ∃ W, W0.alloc (.cells #[] 33) = W := ⟨_, rfl⟩
        obtain ⟨bp, hbp⟩ : ∃ bp, W0.heap.size = bp := ⟨_, rfl⟩
        rw [hW, hbp] at hown
        rw [hW] at HG1
        rw [hbp] at HBP
        simp only [hW, hbp]
        have H40 := Lib.hid hown
        have HBD : Hid (bp < W1.heap.size) := Lib.hid (hown.lt bp rfl).2
        clear hown hgr hW hbp HG0 c0 b0 b1 b2 b3 b4
        have c0 := HG1.out.cell HC0.out (by simp)
        have b0 := HG1.out.cell HBX.out.1 (by simp)
        have b1 := HG1.out.cell HBX.out.2.1 (by simp)
        have b2 := HG1.out.cell HBX.out.2.2.1 (by simp)
        have b3 := HG1.out.cell HBX.out.2.2.2.1 (by simp)
        have b4 := HG1.out.cell HBX.out.2.2.2.2 (by simp)
        refine hK _ _ ?_
        clear hK K
        refine wpAny_ready (rs := [6, 8]) (by kernel_rfl) (by simp) ?_
        refine AllReady.cons rfl (fun K hK => ?_) ?_
        · refine step_append_rg rfl (.tmp 52) (.tmp 56) 27 rfl bp 33 (.agg #[.int .u16 0, .int .u8 0, .int .i8 0, .int .i8 0, .int .i64 0]) 5 16 Cmd.cl_len Try.underlying27 Try.info33 rfl (by decide) (.slice (some ⟨bp, 0, none⟩) 0 0) 0 [] rfl H40.out W1.heap.size AA n cX all rfl ((HR.out.grown HG1.out).ra.of_len HN0.out) (Cmd.one _) n (by omega) (by unfold maxLen; omega) (by omega) (by have := (H40.out.lt bp rfl).2; omega) ?_
          intro A5 c5 W2 h2 h3 h4
          have HG2 := Lib.hid (grown_over HG1.out h3 HBP.out)
          rw [List.nil_append] at h2
          have H45 := Lib.hid h2
          have HBD : Hid (bp < W2.heap.size) := Lib.hid (by have h1 := HBD.out; have h2 := h3.size; omega)
          clear h2 h3 h4 H40 HG1 c0 b0 b1 b2 b3 b4
          have c0 := HG2.out.cell HC0.out (by simp)
          have b0 := HG2.out.cell HBX.out.1 (by simp)
          have b1 := HG2.out.cell HBX.out.2.1 (by simp)
          have b2 := HG2.out.cell HBX.out.2.2.1 (by simp)
          have b3 := HG2.out.cell HBX.out.2.2.2.1 (by simp)
          have b4 := HG2.out.cell HBX.out.2.2.2.2 (by simp)
          refine hK _ _ ?_
          clear hK K
          refine wpAny_ready (rs := [8]) (by kernel_rfl) (by simp) ?_
          refine AllReady.cons rfl (fun K hK => ?_) ?_
          · go_simp
            have hblk := Blk.new W2 33 #[.int .u16 sq, .int .u8 bt, .int .i8 dx, .int .i8 dy, .int .i64 t]
            have hgr := World.grownBy_alloc W2 (.cells #[.int .u16 sq, .int .u8 bt, .int .i8 dx, .int .i8 dy, .int .i64 t] 33) none
            have HG3 := Lib.hid (only_trans HG2.out hgr)
            have HO' := Lib.hid (own_kept H45.out hgr)
            have HN : Hid (∀ k, (Value.slice A5 n c5).ownBlock = some k → k ≠ W2.heap.size) := Lib.hid (fun k e => by have := (H45.out.lt k e).2; omega)
            obtain ⟨W3, hW⟩ : ∃ W, W2.alloc (.cells #[.int .u16 sq, .int .u8 bt, .int .i8 dx, .int .i8 dy, .int .i64 t] 33) = W := ⟨_, rfl⟩
            obtain ⟨p7, hp7⟩ : ∃ p, W2.heap.size = p := ⟨_, rfl⟩
            rw [hW, hp7] at hblk
            rw [hW] at HG3 HO'
            have HBD : Hid (bp < W3.heap.size) := Lib.hid (by have h1 := HBD.out; have h2 := hgr.size; rw [hW] at h2; omega)
            rw [hp7] at HN
            clear H45
            have H45 := HO'
            clear HO'
            simp only [hW, hp7]
            have H47 := Lib.hid hblk
            clear hblk hgr hW hp7 HG2 c0 b0 b1 b2 b3 b4
            have c0 := HG3.out.cell HC0.out (by simp)
            have b0 := HG3.out.cell HBX.out.1 (by simp)
            have b1 := HG3.out.cell HBX.out.2.1 (by simp)
            have b2 := HG3.out.cell HBX.out.2.2.1 (by simp)
            have b3 := HG3.out.cell HBX.out.2.2.2.1 (by simp)
            have b4 := HG3.out.cell HBX.out.2.2.2.2 (by simp)
            refine hK _ _ ?_
            clear hK K
            refine wpAny_ready (rs := [9]) (by kernel_rfl) (by simp) ?_
            refine AllReady.cons rfl (fun K hK => ?_) ?_
            · refine step_append_rg rfl (.tmp 57) (.tmp 59) 27 rfl bp 33 (.agg #[.int .u16 0, .int .u8 0, .int .i8 0, .int .i8 0, .int .i64 0]) 5 16 Cmd.cl_len Try.underlying27 Try.info33 rfl (by decide) (.slice A5 n c5) n all rfl H45.out (p7 + 1) (some ⟨p7, 0, none⟩) 1 1 [⟨sq, bt, dx, dy, t⟩] rfl (rc_of_blk H47.out) (Cmd.one _) (n + 1) rfl (by unfold maxLen; omega) (by omega) (by have := HBD.out; omega) ?_
              intro A8 c8 W4 h2 h3 h4
              have HG4 := Lib.hid (grown_own0 HG3.out h3 (fun k e => by have := (H45.out.lt k e).1; have := HBP.out; omega))
              have H48 := Lib.hid h2
              clear h2 h3 h4 H45 H47 HN HG3 c0 b0 b1 b2 b3 b4
              have c0 := HG4.out.cell HC0.out (by simp)
              have b0 := HG4.out.cell HBX.out.1 (by simp)
              have b1 := HG4.out.cell HBX.out.2.1 (by simp)
              have b2 := HG4.out.cell HBX.out.2.2.1 (by simp)
              have b3 := HG4.out.cell HBX.out.2.2.2.1 (by simp)
              have b4 := HG4.out.cell HBX.out.2.2.2.2 (by simp)
              have f0 := (World.frozen?_of_block (a := ⟨gw, 1, none⟩) (HG4.out.block gw HGW.out (by simp))).trans HF0.out
              refine hK _ _ ?_
              clear hK K
              refine take_k (i := 10) (v := ?_) rfl (by kernel_rfl) (by kernel_rfl) (by kernel_rfl) (fun c a w h => hp c _ _ w h) (Or.inl ⟨by rfl, ?_⟩) (fun K hK => ?_)
              rotate_left 1
              · (intro w; go_simp; try with_reducible rfl)
              go_simp
              refine hK _ _ ?_
              clear hK K
              refine take_k (i := 11) (v := ?_) rfl (by kernel_rfl) (by kernel_rfl) (by kernel_rfl) (fun c a w h => hp c _ _ w h) (Or.inl ⟨by rfl, ?_⟩) (fun K hK => ?_)
              rotate_left 1
              · (intro w; go_simp; try with_reducible rfl)
              go_simp
              refine hK _ _ ?_
              clear hK K
              refine wpAny_ready (rs := [12]) (by kernel_rfl) (by simp) ?_
              refine AllReady.cons rfl (fun K hK => ?_) ?_
              · go_simp
                refine hK _ _ ?_
                clear hK K
                refine wpAny_done (by kernel_rfl) ?_ _
                refine hq _ _ _ _ _ _ _ _ _ _ _ _ _ (Lib.hid ⟨only_trans (grown_weak HG4.out _) (only_put (World.grownBy.refl _ _) 1 _), A8, ?_, fun ad e => ?_⟩)
                · exact (HR.out.grown HG4.out).put1 A8 (n + 1) c8 _ (own_rg Cmd.cl_len (by decide) H48.out) (own_caps H48.out).1 (own_caps H48.out).2 (fun ad e => own_far H48.out e HBP.out HGW.out)
                · exact own_ge H48.out e HBP.out
              exact AllReady.nil
            exact AllReady.nil
          exact AllReady.nil
        refine AllReady.cons rfl (fun K hK => ?_) ?_
        · go_simp
          have hblk := Blk.new W1 33 #[.int .u16 sq, .int .u8 bt, .int .i8 dx, .int .i8 dy, .int .i64 t]
          have hgr := World.grownBy_alloc W1 (.cells #[.int .u16 sq, .int .u8 bt, .int .i8 dx, .int .i8 dy, .int .i64 t] 33) none
          have HG2 := Lib.hid (only_trans HG1.out hgr)
          have HO' := Lib.hid (own_kept H40.out hgr)
          have HN : Hid (bp ≠ W1.heap.size) := Lib.hid (by have := (H40.out.lt bp rfl).2; omega)
          obtain ⟨W2, hW⟩ : ∃ W, W1.alloc (.cells #[.int .u16 sq, .int .u8 bt, .int .i8 dx, .int .i8 dy, .int .i64 t] 33) = W := ⟨_, rfl⟩
          obtain ⟨p7, hp7⟩ : ∃ p, W1.heap.size = p := ⟨_, rfl⟩
          rw [hW, hp7] at hblk
          rw [hW] at HG2 HO'
          have HBD : Hid (bp < W2.heap.size) := Lib.hid (by have h1 := HBD.out; have h2 := hgr.size; rw [hW] at h2; omega)
          rw [hp7] at HN
          clear H40
          have H40 := HO'
          clear HO'
          simp only [hW, hp7]
          have H47 := Lib.hid hblk
          clear hblk hgr hW hp7 HG1 c0 b0 b1 b2 b3 b4
          have c0 := HG2.out.cell HC0.out (by simp)
          have b0 := HG2.out.cell HBX.out.1 (by simp)
          have b1 := HG2.out.cell HBX.out.2.1 (by simp)
          have b2 := HG2.out.cell HBX.out.2.2.1 (by simp)
          have b3 := HG2.out.cell HBX.out.2.2.2.1 (by simp)
          have b4 := HG2.out.cell HBX.out.2.2.2.2 (by simp)
          refine hK _ _ ?_
          clear hK K
          refine wpAny_ready (rs := [6]) (by kernel_rfl) (by simp) ?_
          refine AllReady.cons rfl (fun K hK => ?_) ?_
          · refine step_append_rg rfl (.tmp 52) (.tmp 56) 27 rfl bp 33 (.agg #[.int .u16 0, .int .u8 0, .int .i8 0, .int .i8 0, .int .i64 0]) 5 16 Cmd.cl_len Try.underlying27 Try.info33 rfl (by decide) (.slice (some ⟨bp, 0, none⟩) 0 0) 0 [] rfl H40.out W2.heap.size AA n cX all rfl ((HR.out.grown HG2.out).ra.of_len HN0.out) (Cmd.one _) n (by omega) (by unfold maxLen; omega) (by omega) (by have := (H40.out.lt bp rfl).2; omega) ?_
            intro A5 c5 W3 h2 h3 h4
            have HG3 := Lib.hid (grown_over HG2.out h3 HBP.out)
            rw [List.nil_append] at h2
            have H45 := Lib.hid h2
            have HBD : Hid (bp < W3.heap.size) := Lib.hid (by have h1 := HBD.out; have h2 := h3.size; omega)
            have H47' := Lib.hid (H47.out.grown h3 (fun e => HN.out (by injection e with e; exact e.symm)))
            have HN' : Hid (∀ k, (Value.slice A5 n c5).ownBlock = some k → k ≠ p7) := Lib.hid (fun k e => by
              have hlt := H47.out.lt
              rcases h4 with h4 | h4
              · rw [h4] at e; injection e with e; rw [← e]; exact HN.out
              · rw [h4] at e; injection e with e; omega)
            clear H47 HN
            have H47 := H47'
            have HN := HN'
            clear H47' HN'
            clear h2 h3 h4 H40 HG2 c0 b0 b1 b2 b3 b4
            have c0 := HG3.out.cell HC0.out (by simp)
            have b0 := HG3.out.cell HBX.out.1 (by simp)
            have b1 := HG3.out.cell HBX.out.2.1 (by simp)
            have b2 := HG3.out.cell HBX.out.2.2.1 (by simp)
            have b3 := HG3.out.cell HBX.out.2.2.2.1 (by simp)
            have b4 := HG3.out.cell HBX.out.2.2.2.2 (by simp)
            refine hK _ _ ?_
            clear hK K
            refine wpAny_ready (rs := [9]) (by kernel_rfl) (by simp) ?_
            refine AllReady.cons rfl (fun K hK => ?_) ?_
            · refine step_append_rg rfl (.tmp 57) (.tmp 59) 27 rfl bp 33 (.agg #[.int .u16 0, .int .u8 0, .int .i8 0, .int .i8 0, .int .i64 0]) 5 16 Cmd.cl_len Try.underlying27 Try.info33 rfl (by decide) (.slice A5 n c5) n all rfl H45.out (p7 + 1) (some ⟨p7, 0, none⟩) 1 1 [⟨sq, bt, dx, dy, t⟩] rfl (rc_of_blk H47.out) (Cmd.one _) (n + 1) rfl (by unfold maxLen; omega) (by omega) (by have := HBD.out; omega) ?_
              intro A8 c8 W4 h2 h3 h4
              have HG4 := Lib.hid (grown_own0 HG3.out h3 (fun k e => by have := (H45.out.lt k e).1; have := HBP.out; omega))
              have H48 := Lib.hid h2
              clear h2 h3 h4 H45 H47 HN HG3 c0 b0 b1 b2 b3 b4
              have c0 := HG4.out.cell HC0.out (by simp)
              have b0 := HG4.out.cell HBX.out.1 (by simp)
              have b1 := HG4.out.cell HBX.out.2.1 (by simp)
              have b2 := HG4.out.cell HBX.out.2.2.1 (by simp)
              have b3 := HG4.out.cell HBX.out.2.2.2.1 (by simp)
              have b4 := HG4.out.cell HBX.out.2.2.2.2 (by simp)
              have f0 := (World.frozen?_of_block (a := ⟨gw, 1, none⟩) (HG4.out.block gw HGW.out (by simp))).trans HF0.out
              refine hK _ _ ?_
              clear hK K
              refine take_k (i := 10) (v := ?_) rfl (by kernel_rfl) (by kernel_rfl) (by kernel_rfl) (fun c a w h => hp c _ _ w h) (Or.inl ⟨by rfl, ?_⟩) (fun K hK => ?_)
              rotate_left 1
              · (intro w; go_simp; try with_reducible rfl)
              go_simp
              refine hK _ _ ?_
              clear hK K
              refine take_k (i := 11) (v := ?_) rfl (by kernel_rfl) (by kernel_rfl) (by kernel_rfl) (fun c a w h => hp c _ _ w h) (Or.inl ⟨by rfl, ?_⟩) (fun K hK => ?_)
              rotate_left 1
              · (intro w; go_simp; try with_reducible rfl)
              go_simp
              refine hK _ _ ?_
              clear hK K
              refine wpAny_ready (rs := [12]) (by kernel_rfl) (by simp) ?_
              refine AllReady.cons rfl (fun K hK => ?_) ?_
              · go_simp
                refine hK _ _ ?_
                clear hK K
                refine wpAny_done (by kernel_rfl) ?_ _
                refine hq _ _ _ _ _ _ _ _ _ _ _ _ _ (Lib.hid ⟨only_trans (grown_weak HG4.out _) (only_put (World.grownBy.refl _ _) 1 _), A8, ?_, fun ad e => ?_⟩)
                · exact (HR.out.grown HG4.out).put1 A8 (n + 1) c8 _ (own_rg Cmd.cl_len (by decide) H48.out) (own_caps H48.out).1 (own_caps H48.out).2 (fun ad e => own_far H48.out e HBP.out HGW.out)
                · exact own_ge H48.out e HBP.out
              exact AllReady.nil
            exact AllReady.nil
          exact AllReady.nil
        exact AllReady.nil
      refine AllReady.cons rfl (fun K hK => ?_) ?_
      · go_simp
        have hblk := Blk.new W0 33 #[.int .u16 sq, .int .u8 bt, .int .i8 dx, .int .i8 dy, .int .i64 t]
        have hgr := World.grownBy_alloc W0 (.cells #[.int .u16 sq, .int .u8 bt, .int .i8 dx, .int .i8 dy, .int .i64 t] 33) none
        have HG1 := Lib.hid (only_trans HG0.out hgr)
        obtain ⟨W1, hW⟩ : ∃ W, W0.alloc (.cells #[.int .u16 sq, .int .u8 bt, .int .i8 dx, .int .i8 dy, .int .i64 t] 33) = W := ⟨_, rfl⟩
        obtain ⟨p7, hp7⟩ : ∃ p, W0.heap.size = p := ⟨_, rfl⟩
        rw [hW, hp7] at hblk
        rw [hW] at HG1
        simp only [hW, hp7]
        have H47 := Lib.hid hblk
        clear hblk hgr hW hp7 HG0 c0 b0 b1 b2 b3 b4
        have c0 := HG1.out.cell HC0.out (by simp)
        have b0 := HG1.out.cell HBX.out.1 (by simp)
        have b1 := HG1.out.cell HBX.out.2.1 (by simp)
        have b2 := HG1.out.cell HBX.out.2.2.1 (by simp)
        have b3 := HG1.out.cell HBX.out.2.2.2.1 (by simp)
        have b4 := HG1.out.cell HBX.out.2.2.2.2 (by simp)
        refine hK _ _ ?_
        clear hK K
        refine wpAny_ready (rs := [1]) (by kernel_rfl) (by simp) ?_
        refine AllReady.cons rfl (fun K hK => ?_) ?_
        · go_simp
          have hown := World.ownsRow_lit (e := 33) (size := 5) W1 #[] 0 (Nat.le_refl _) (by decide) rfl
          have hgr := World.grownBy_alloc W1 (.cells #[] 33) none
          have HG2 := Lib.hid (only_trans HG1.out hgr)
          have HBP : Hid (w.heap.size ≤ W1.heap.size) := Lib.hid HG1.out.size
          have H47' := Lib.hid (H47.out.grown hgr (by simp))
          have HN : Hid (W1.heap.size ≠ p7) := Lib.hid (by have := H47.out.lt; omega)
          obtain ⟨W2, hW⟩ : ∃ W, W1.alloc (.cells #[] 33) = W := ⟨_, rfl⟩
          obtain ⟨bp, hbp⟩ : ∃ bp, W1.heap.size = bp := ⟨_, rfl⟩
          rw [hW, hbp] at hown
          rw [hW] at HG2 H47'
          rw [hbp] at HBP HN
          simp only [hW, hbp]
          have H40 := Lib.hid hown
          have HBD : Hid (bp < W2.heap.size) := Lib.hid (hown.lt bp rfl).2
          clear H47
          have H47 := H47'
          clear H47'
          clear hown hgr hW hbp HG1 c0 b0 b1 b2 b3 b4
          have c0 := HG2.out.cell HC0.out (by simp)
          have b0 := HG2.out.cell HBX.out.1 (by simp)
          have b1 := HG2.out.cell HBX.out.2.1 (by simp)
          have b2 := HG2.out.cell HBX.out.2.2.1 (by simp)
          have b3 := HG2.out.cell HBX.out.2.2.2.1 (by simp)
          have b4 := HG2.out.cell HBX.out.2.2.2.2 (by simp)
          refine hK _ _ ?_
          clear hK K
          refine wpAny_ready (rs := [6]) (by kernel_rfl) (by simp) ?_
          refine AllReady.cons rfl (fun K hK => ?_) ?_
          · refine step_append_rg rfl (.tmp 52) (.tmp 56) 27 rfl bp 33 (.agg #[.int .u16 0, .int .u8 0, .int .i8 0, .int .i8 0, .int .i64 0]) 5 16 Cmd.cl_len Try.underlying27 Try.info33 rfl (by decide) (.slice (some ⟨bp, 0, none⟩) 0 0) 0 [] rfl H40.out W2.heap.size AA n cX all rfl ((HR.out.grown HG2.out).ra.of_len HN0.out) (Cmd.one _) n (by omega) (by unfold maxLen; omega) (by omega) (by have := (H40.out.lt bp rfl).2; omega) ?_
            intro A5 c5 W3 h2 h3 h4
            have HG3 := Lib.hid (grown_over HG2.out h3 HBP.out)
            rw [List.nil_append] at h2
            have H45 := Lib.hid h2
            have HBD : Hid (bp < W3.heap.size) := Lib.hid (by have h1 := HBD.out; have h2 := h3.size; omega)
            have H47' := Lib.hid (H47.out.grown h3 (fun e => HN.out (by injection e with e; exact e.symm)))
            have HN' : Hid (∀ k, (Value.slice A5 n c5).ownBlock = some k → k ≠ p7) := Lib.hid (fun k e => by
              have hlt := H47.out.lt
              rcases h4 with h4 | h4
              · rw [h4] at e; injection e with e; rw [← e]; exact HN.out
              · rw [h4] at e; injection e with e; omega)
            clear H47 HN
            have H47 := H47'
            have HN := HN'
            clear H47' HN'
            clear h2 h3 h4 H40 HG2 c0 b0 b1 b2 b3 b4
            have c0 := HG3.out.cell HC0.out (by simp)
            have b0 := HG3.out.cell HBX.out.1 (by simp)
            have b1 := HG3.out.cell HBX.out.2.1 (by simp)
            have b2 := HG3.out.cell HBX.out.2.2.1 (by simp)
            have b3 := HG3.out.cell HBX.out.2.2.2.1 (by simp)
            have b4 := HG3.out.cell HBX.out.2.2.2.2 (by simp)
            refine hK _ _ ?_
            clear hK K
            refine wpAny_ready (rs := [9]) (by kernel_rfl) (by simp) ?_
            refine AllReady.cons rfl (fun K hK => ?_) ?_
            · refine step_append_rg rfl (.tmp 57) (.tmp 59) 27 rfl bp 33 (.agg #[.int .u16 0, .int .u8 0, .int .i8 0, .int .i8 0, .int .i64 0]) 5 16 Cmd.cl_len Try.underlying27 Try.info33 rfl (by decide) (.slice A5 n c5) n all rfl H45.out (p7 + 1) (some ⟨p7, 0, none⟩) 1 1 [⟨sq, bt, dx, dy, t⟩] rfl (rc_of_blk H47.out) (Cmd.one _) (n + 1) rfl (by unfold maxLen; omega) (by omega) (by have := HBD.out; omega) ?_
              intro A8 c8 W4 h2 h3 h4
              have HG4 := Lib.hid (grown_own0 HG3.out h3 (fun k e => by have := (H45.out.lt k e).1; have := HBP.out; omega))
              have H48 := Lib.hid h2
              clear h2 h3 h4 H45 H47 HN HG3 c0 b0 b1 b2 b3 b4
              have c0 := HG4.out.cell HC0.out (by simp)
              have b0 := HG4.out.cell HBX.out.1 (by simp)
              have b1 := HG4.out.cell HBX.out.2.1 (by simp)
              have b2 := HG4.out.cell HBX.out.2.2.1 (by simp)
              have b3 := HG4.out.cell HBX.out.2.2.2.1 (by simp)
              have b4 := HG4.out.cell HBX.out.2.2.2.2 (by simp)
              have f0 := (World.frozen?_of_block (a := ⟨gw, 1, none⟩) (HG4.out.block gw HGW.out (by simp))).trans HF0.out
              refine hK _ _ ?_
              clear hK K
              refine take_k (i := 10) (v := ?_) rfl (by kernel_rfl) (by kernel_rfl) (by kernel_rfl) (fun c a w h => hp c _ _ w h) (Or.inl ⟨by rfl, ?_⟩) (fun K hK => ?_)
              rotate_left 1
              · (intro w; go_simp; try with_reducible rfl)
              go_simp
              refine hK _ _ ?_
              clear hK K
              refine take_k (i := 11) (v := ?_) rfl (by kernel_rfl) (by kernel_rfl) (by kernel_rfl) (fun c a w h => hp c _ _ w h) (Or.inl ⟨by rfl, ?_⟩) (fun K hK => ?_)
              rotate_left 1
              · (intro w; go_simp; try with_reducible rfl)
              go_simp
              refine hK _ _ ?_
              clear hK K
              refine wpAny_ready (rs := [12]) (by kernel_rfl) (by simp) ?_
              refine AllReady.cons rfl (fun K hK => ?_) ?_
              · go_simp
                refine hK _ _ ?_
                clear hK K
                refine wpAny_done (by kernel_rfl) ?_ _
                refine hq _ _ _ _ _ _ _ _ _ _ _ _ _ (Lib.hid ⟨only_trans (grown_weak HG4.out _) (only_put (World.grownBy.refl _ _) 1 _), A8, ?_, fun ad e => ?_⟩)
                · exact (HR.out.grown HG4.out).put1 A8 (n + 1) c8 _ (own_rg Cmd.cl_len (by decide) H48.out) (own_caps H48.out).1 (own_caps H48.out).2 (fun ad e => own_far H48.out e HBP.out HGW.out)
                · exact own_ge H48.out e HBP.out
              exact AllReady.nil
            exact AllReady.nil
          exact AllReady.nil
        exact AllReady.nil
      exact AllReady.nil
    exact AllReady.nil
  refine AllReady.cons rfl (fun K hK => ?_) ?_
  · go_simp
    refine hK _ _ ?_
    clear hK K
    refine wpAny_ready (rs := [1, 5, 8]) (by kernel_rfl) (by simp) ?_
    refine AllReady.cons rfl (fun K hK => ?_) ?_
    · go_simp
      have hown := World.ownsRow_lit (e := 33) (size := 5) W0 #[] 0 (Nat.le_refl _) (by decide) rfl
      have hgr := World.grownBy_alloc W0 (.cells #[] 33) none
      have HG1 := Lib.hid (only_trans HG0.out hgr)
      have HBP : Hid (w.heap.size ≤ W0.heap.size) := Lib.hid HG0.out.size
      obtain ⟨W1, hW⟩ : ∃ W, W0.alloc (.cells #[] 33) = W := ⟨_, rfl⟩
      obtain ⟨bp, hbp⟩ : ∃ bp, W0.heap.size = bp := ⟨_, rfl⟩
      rw [hW, hbp] at hown
      rw [hW] at HG1
      rw [hbp] at HBP
      simp only [hW, hbp]
      have H40 := Lib.hid hown
      have HBD : Hid (bp < W1.heap.size) := Lib.hid (hown.lt bp rfl).2
      clear hown hgr hW hbp HG0 c0 b0 b1 b2 b3 b4
      have c0 := HG1.out.cell HC0.out (by simp)
      have b0 := HG1.out.cell HBX.out.1 (by simp)
      have b1 := HG1.out.cell HBX.out.2.1 (by simp)
      have b2 := HG1.out.cell HBX.out.2.2.1 (by simp)
      have b3 := HG1.out.cell HBX.out.2.2.2.1 (by simp)
      have b4 := HG1.out.cell HBX.out.2.2.2.2 (by simp)
      refine hK _ _ ?_
      clear hK K
      refine wpAny_ready (rs := [5, 8]) (by kernel_rfl) (by simp) ?_
      refine AllReady.cons rfl (fun K hK => ?_) ?_
      · go_simp
        refine hK _ _ ?_
        clear hK K
        refine wpAny_ready (rs := [6, 8]) (by kernel_rfl) (by simp) ?_
        refine AllReady.cons rfl (fun K hK => ?_) ?_
        · refine step_append_rg rfl (.tmp 52) (.tmp 56) 27 rfl bp 33 (.agg #[.int .u16 0, .int .u8 0, .int .i8 0, .int .i8 0, .int .i64 0]) 5 16 Cmd.cl_len Try.underlying27 Try.info33 rfl (by decide) (.slice (some ⟨bp, 0, none⟩) 0 0) 0 [] rfl H40.out W1.heap.size AA n cX all rfl ((HR.out.grown HG1.out).ra.of_len HN0.out) (Cmd.one _) n (by omega) (by unfold maxLen; omega) (by omega) (by have := (H40.out.lt bp rfl).2; omega) ?_
          intro A5 c5 W2 h2 h3 h4
          have HG2 := Lib.hid (grown_over HG1.out h3 HBP.out)
          rw [List.nil_append] at h2
          have H45 := Lib.hid h2
          have HBD : Hid (bp < W2.heap.size) := Lib.hid (by have h1 := HBD.out; have h2 := h3.size; omega)
          clear h2 h3 h4 H40 HG1 c0 b0 b1 b2 b3 b4
          have c0 := HG2.out.cell HC0.out (by simp)
          have b0 := HG2.out.cell HBX.out.1 (by simp)
          have b1 := HG2.out.cell HBX.out.2.1 (by simp)
          have b2 := HG2.out.cell HBX.out.2.2.1 (by simp)
          have b3 := HG2.out.cell HBX.out.2.2.2.1 (by simp)
          have b4 := HG2.out.cell HBX.out.2.2.2.2 (by simp)
          refine hK _ _ ?_
          clear hK K
          refine wpAny_ready (rs := [8]) (by kernel_rfl) (by simp) ?_
          refine AllReady.cons rfl (fun K hK => ?_) ?_
          · go_simp
            have hblk := Blk.new W2 33 #[.int .u16 sq, .int .u8 bt, .int .i8 dx, .int .i8 dy, .int .i64 t]
            have hgr := World.grownBy_alloc W2 (.cells #[.int .u16 sq, .int .u8 bt, .int .i8 dx, .int .i8 dy, .int .i64 t] 33) none
            have HG3 := Lib.hid (only_trans HG2.out hgr)
            have HO' := Lib.hid (own_kept H45.out hgr)
            have HN : Hid (∀ k, (Value.slice A5 n c5).ownBlock = some k → k ≠ W2.heap.size) := Lib.hid (fun k e => by have := (H45.out.lt k e).2; omega)
            obtain ⟨W3, hW⟩ : ∃ W, W2.alloc (.cells #[.int .u16 sq, .int .u8 bt, .int .i8 dx, .int .i8 dy, .int .i64 t] 33) = W := ⟨_, rfl⟩
            obtain ⟨p7, hp7⟩ : ∃ p, W2.heap.size = p := ⟨_, rfl⟩
            rw [hW, hp7] at hblk
            rw [hW] at HG3 HO'
            have HBD : Hid (bp < W3.heap.size) := Lib.hid (by have h1 := HBD.out; have h2 := hgr.size; rw [hW] at h2; omega)
            rw [hp7] at HN
            clear H45
            have H45 := HO'
            clear HO'
            simp only [hW, hp7]
            have H47 := Lib.hid hblk
            clear hblk hgr hW hp7 HG2 c0 b0 b1 b2 b3 b4
            have c0 := HG3.out.cell HC0.out (by simp)
            have b0 := HG3.out.cell HBX.out.1 (by simp)
            have b1 := HG3.out.cell HBX.out.2.1 (by simp)
            have b2 := HG3.out.cell HBX.out.2.2.1 (by simp)
            have b3 := HG3.out.cell HBX.out.2.2.2.1 (by simp)
            have b4 := HG3.out.cell HBX.out.2.2.2.2 (by simp)
            refine hK _ _ ?_
            clear hK K
            refine wpAny_ready (rs := [9]) (by kernel_rfl) (by simp) ?_
            refine AllReady.cons rfl (fun K hK => ?_) ?_
            · refine step_append_rg rfl (.tmp 57) (.tmp 59) 27 rfl bp 33 (.agg #[.int .u16 0, .int .u8 0, .int .i8 0, .int .i8 0, .int .i64 0]) 5 16 Cmd.cl_len Try.underlying27 Try.info33 rfl (by decide) (.slice A5 n c5) n all rfl H45.out (p7 + 1) (some ⟨p7, 0, none⟩) 1 1 [⟨sq, bt, dx, dy, t⟩] rfl (rc_of_blk H47.out) (Cmd.one _) (n + 1) rfl (by unfold maxLen; omega) (by omega) (by have := HBD.out; omega) ?_
              intro A8 c8 W4 h2 h3 h4
              have HG4 := Lib.hid (grown_own0 HG3.out h3 (fun k e => by have := (H45.out.lt k e).1; have := HBP.out; omega))
              have H48 := Lib.hid h2
              clear h2 h3 h4 H45 H47 HN HG3 c0 b0 b1 b2 b3 b4
              have c0 := HG4.out.cell HC0.out (by simp)
              have b0 := HG4.out.cell HBX.out.1 (by simp)
              have b1 := HG4.out.cell HBX.out.2.1 (by simp)
              have b2 := HG4.out.cell HBX.out.2.2.1 (by simp)
              have b3 := HG4.out.cell HBX.out.2.2.2.1 (by simp)
              have b4 := HG4.out.cell HBX.out.2.2.2.2 (by simp)
              have f0 := (World.frozen?_of_block (a := ⟨gw, 1, none⟩) (HG4.out.block gw HGW.out (by simp))).trans HF0.out
              refine hK _ _ ?_
              clear hK K
              refine take_k (i := 10) (v := ?_) rfl (by kernel_rfl) (by kernel_rfl) (by kernel_rfl) (fun c a w h => hp c _ _ w h) (Or.inl ⟨by rfl, ?_⟩) (fun K hK => ?_)
              rotate_left 1
              · (intro w; go_simp; try with_reducible rfl)
              go_simp
              refine hK _ _ ?_
              clear hK K
              refine take_k (i := 11) (v := ?_) rfl (by kernel_rfl) (by kernel_rfl) (by kernel_rfl) (fun c a w h => hp c _ _ w h) (Or.inl ⟨by rfl, ?_⟩) (fun K hK => ?_)
              rotate_left 1
              · (intro w; go_simp; try with_reducible rfl)
              go_simp
              refine hK _ _ ?_
              clear hK K
              refine wpAny_ready (rs := [12]) (by kernel_rfl) (by simp) ?_
              refine AllReady.cons rfl (fun K hK => ?_) ?_
              · go_simp
                refine hK _ _ ?_
                clear hK K
                refine wpAny_done (by kernel_rfl) ?_ _
                refine hq _ _ _ _ _ _ _ _ _ _ _ _ _ (Lib.hid ⟨only_trans (grown_weak HG4.out _) (only_put (World.grownBy.refl _ _) 1 _), A8, ?_, fun ad e => ?_⟩)
                · exact (HR.out.grown HG4.out).put1 A8 (n + 1) c8 _ (own_rg Cmd.cl_len (by decide) H48.out) (own_caps H48.out).1 (own_caps H48.out).2 (fun ad e => own_far H48.out e HBP.out HGW.out)
                · exact own_ge H48.out e HBP.out
              exact AllReady.nil
            exact AllReady.nil
          exact AllReady.nil
        refine AllReady.cons rfl (fun K hK => ?_) ?_
        · go_simp
          have hblk := Blk.new W1 33 #[.int .u16 sq, .int .u8 bt, .int .i8 dx, .int .i8 dy, .int .i64 t]
          have hgr := World.grownBy_alloc W1 (.cells #[.int .u16 sq, .int .u8 bt, .int .i8 dx, .int .i8 dy, .int .i64 t] 33) none
          have HG2 := Lib.hid (only_trans HG1.out hgr)
          have HO' := Lib.hid (own_kept H40.out hgr)
          have HN : Hid (bp ≠ W1.heap.size) := Lib.hid (by have := (H40.out.lt bp rfl).2; omega)
          obtain ⟨W2, hW⟩ : ∃ W, W1.alloc (.cells #[.int .u16 sq, .int .u8 bt, .int .i8 dx, .int .i8 dy, .int .i64 t] 33) = W := ⟨_, rfl⟩
          obtain ⟨p7, hp7⟩ : ∃ p, W1.heap.size = p := ⟨_, rfl⟩
          rw [hW, hp7] at hblk
          rw [hW] at HG2 HO'
          have HBD : Hid (bp < W2.heap.size) := Lib.hid (by have h1 := HBD.out; have h2 := hgr.size; rw [hW] at h2; omega)
          rw [hp7] at HN
          clear H40
          have H40 := HO'
          clear HO'
          simp only [hW, hp7]
          have H47 := Lib.hid hblk
          clear hblk hgr hW hp7 HG1 c0 b0 b1 b2 b3 b4
          have c0 := HG2.out.cell HC0.out (by simp)
          have b0 := HG2.out.cell HBX.out.1 (by simp)
          have b1 := HG2.out.cell HBX.out.2.1 (by simp)
          have b2 := HG2.out.cell HBX.out.2.2.1 (by simp)
          have b3 := HG2.out.cell HBX.out.2.2.2.1 (by simp)
          have b4 := HG2.out.cell HBX.out.2.2.2.2 (by simp)
          refine hK _ _ ?_
          clear hK K
          refine wpAny_ready (rs := [6]) (by kernel_rfl) (by simp) ?_
          refine AllReady.cons rfl (fun K hK => ?_) ?_
          · refine step_append_rg rfl (.tmp 52) (.tmp 56) 27 rfl bp 33 (.agg #[.int .u16 0, .int .u8 0, .int .i8 0, .int .i8 0, .int .i64 0]) 5 16 Cmd.cl_len Try.underlying27 Try.info33 rfl (by decide) (.slice (some ⟨bp, 0, none⟩) 0 0) 0 [] rfl H40.out W2.heap.size AA n cX all rfl ((HR.out.grown HG2.out).ra.of_len HN0.out) (Cmd.one _) n (by omega) (by unfold maxLen; omega) (by omega) (by have := (H40.out.lt bp rfl).2; omega) ?_
            intro A5 c5 W3 h2 h3 h4
            have HG3 := Lib.hid (grown_over HG2.out h3 HBP.out)
            rw [List.nil_append] at h2
            have H45 := Lib.hid h2
            have HBD : Hid (bp < W3.heap.size) := Lib.hid (by have h1 := HBD.out; have h2 := h3.size; omega)
            have H47' := Lib.hid (H47.out.grown h3 (fun e => HN.out (by injection e with e; exact e.symm)))
            have HN' : Hid (∀ k, (Value.slice A5 n c5).ownBlock = some k → k ≠ p7) := Lib.hid (fun k e => by
              have hlt := H47.out.lt
              rcases h4 with h4 | h4
              · rw [h4] at e; injection e with e; rw [← e]; exact HN.out
              · rw [h4] at e; injection e with e; omega)
            clear H47 HN
            have H47 := H47'
            have HN := HN'
            clear H47' HN'
            clear h2 h3 h4 H40 HG2 c0 b0 b1 b2 b3 b4
            have c0 := HG3.out.cell HC0.out (by simp)
            have b0 := HG3.out.cell HBX.out.1 (by simp)
            have b1 := HG3.out.cell HBX.out.2.1 (by simp)
            have b2 := HG3.out.cell HBX.out.2.2.1 (by simp)
            have b3 := HG3.out.cell HBX.out.2.2.2.1 (by simp)
            have b4 := HG3.out.cell HBX.out.2.2.2.2 (by simp)
            refine hK _ _ ?_
            clear hK K
            refine wpAny_ready (rs := [9]) (by kernel_rfl) (by simp) ?_
            refine AllReady.cons rfl (fun K hK => ?_) ?_
            · refine step_append_rg rfl (.tmp 57) (.tmp 59) 27 rfl bp 33 (.agg #[.int .u16 0, .int .u8 0, .int .i8 0, .int .i8 0, .int .i64 0]) 5 16 Cmd.cl_len Try.underlying27 Try.info33 rfl (by decide) (.slice A5 n c5) n all rfl H45.out (p7 + 1) (some ⟨p7, 0, none⟩) 1 1 [⟨sq, bt, dx, dy, t⟩] rfl (rc_of_blk H47.out) (Cmd.one _) (n + 1) rfl (by unfold maxLen; omega) (by omega) (by have := HBD.out; omega) ?_
              intro A8 c8 W4 h2 h3 h4
              have HG4 := Lib.hid (grown_own0 HG3.out h3 (fun k e => by have := (H45.out.lt k e).1; have := HBP.out; omega))
              have H48 := Lib.hid h2
              clear h2 h3 h4 H45 H47 HN HG3 c0 b0 b1 b2 b3 b4
              have c0 := HG4.out.cell HC0.out (by simp)
              have b0 := HG4.out.cell HBX.out.1 (by simp)
              have b1 := HG4.out.cell HBX.out.2.1 (by simp)
              have b2 := HG4.out.cell HBX.out.2.2.1 (by simp)
              have b3 := HG4.out.cell HBX.out.2.2.2.1 (by simp)
              have b4 := HG4.out.cell HBX.out.2.2.2.2 (by simp)
              have f0 := (World.frozen?_of_block (a := ⟨gw, 1, none⟩) (HG4.out.block gw HGW.out (by simp))).trans HF0.out
              refine hK _ _ ?_
              clear hK K
              refine take_k (i := 10) (v := ?_) rfl (by kernel_rfl) (by kernel_rfl) (by kernel_rfl) (fun c a w h => hp c _ _ w h) (Or.inl ⟨by rfl, ?_⟩) (fun K hK => ?_)
              rotate_left 1
              · (intro w; go_simp; try with_reducible rfl)
              go_simp
              refine hK _ _ ?_
              clear hK K
              refine take_k (i := 11) (v := ?_) rfl (by kernel_rfl) (by kernel_rfl) (by kernel_rfl) (fun c a w h => hp c _ _ w h) (Or.inl ⟨by rfl, ?_⟩) (fun K hK => ?_)
              rotate_left 1
              · (intro w; go_simp; try with_reducible rfl)
              go_simp
              refine hK _ _ ?_
              clear hK K
              refine wpAny_ready (rs := [12]) (by kernel_rfl) (by simp) ?_
              refine AllReady.cons rfl (fun K hK => ?_) ?_
              · go_simp
                refine hK _ _ ?_
                clear hK K
                refine wpAny_done (by kernel_rfl) ?_ _
                refine hq _ _ _ _ _ _ _ _ _ _ _ _ _ (Lib.hid ⟨only_trans (grown_weak HG4.out _) (only_put (World.grownBy.refl _ _) 1 _), A8, ?_, fun ad e => ?_⟩)
                · exact (HR.out.grown HG4.out).put1 A8 (n + 1) c8 _ (own_rg Cmd.cl_len (by decide) H48.out) (own_caps H48.out).1 (own_caps H48.out).2 (fun ad e => own_far H48.out e HBP.out HGW.out)
                · exact own_ge H48.out e HBP.out
              exact AllReady.nil
            exact AllReady.nil
          exact AllReady.nil
        exact AllReady.nil
      refine AllReady.cons rfl (fun K hK => ?_) ?_
      · go_simp
        have hblk := Blk.new W1 33 #[.int .u16 sq, .int .u8 bt, .int .i8 dx, .int .i8 dy, .int .i64 t]
        have hgr := World.grownBy_alloc W1 (.cells #[.int .u16 sq, .int .u8 bt, .int .i8 dx, .int .i8 dy, .int .i64 t] 33) none
        have HG2 := Lib.hid (only_trans HG1.out hgr)
        have HO' := Lib.hid (own_kept H40.out hgr)
        have HN : Hid (bp ≠ W1.heap.size) := Lib.hid (by have := (H40.out.lt bp rfl).2; omega)
        obtain ⟨W2, hW⟩ : ∃ W, W1.alloc (.cells #[.int .u16 sq, .int .u8 bt, .int .i8 dx, .int .i8 dy, .int .i64 t] 33) = W := ⟨_, rfl⟩
        obtain ⟨p7, hp7⟩ : ∃ p, W1.heap.size = p := ⟨_, rfl⟩
        rw [hW, hp7] at hblk
        rw [hW] at HG2 HO'
        have HBD : Hid (bp < W2.heap.size) := Lib.hid (by have h1 := HBD.out; have h2 := hgr.size; rw [hW] at h2; omega)
        rw [hp7] at HN
        clear H40
        have H40 := HO'
        clear HO'
        simp only [hW, hp7]
        have H47 := Lib.hid hblk
        clear hblk hgr hW hp7 HG1 c0 b0 b1 b2 b3 b4
        have c0 := HG2.out.cell HC0.out (by simp)
        have b0 := HG2.out.cell HBX.out.1 (by simp)
        have b1 := HG2.out.cell HBX.out.2.1 (by simp)
        have b2 := HG2.out.cell HBX.out.2.2.1 (by simp)
        have b3 := HG2.out.cell HBX.out.2.2.2.1 (by simp)
        have b4 := HG2.out.cell HBX.out.2.2.2.2 (by simp)
        refine hK _ _ ?_
        clear hK K
        refine wpAny_ready (rs := [5]) (by kernel_rfl) (by simp) ?_
        refine AllReady.cons rfl (fun K hK => ?_) ?_
        · go_simp
          refine hK _ _ ?_
          clear hK K
          refine wpAny_ready (rs := [6]) (by kernel_rfl) (by simp) ?_
          refine AllReady.cons rfl (fun K hK => ?_) ?_
          · refine step_append_rg rfl (.tmp 52) (.tmp 56) 27 rfl bp 33 (.agg #[.int .u16 0, .int .u8 0, .int .i8 0, .int .i8 0, .int .i64 0]) 5 16 Cmd.cl_len Try.underlying27 Try.info33 rfl (by decide) (.slice (some ⟨bp, 0, none⟩) 0 0) 0 [] rfl H40.out W2.heap.size AA n cX all rfl ((HR.out.grown HG2.out).ra.of_len HN0.out) (Cmd.one _) n (by omega) (by unfold maxLen; omega) (by omega) (by have := (H40.out.lt bp rfl).2; omega) ?_
            intro A5 c5 W3 h2 h3 h4
            have HG3 := Lib.hid (grown_over HG2.out h3 HBP.out)
            rw [List.nil_append] at h2
            have H45 := Lib.hid h2
            have HBD : Hid (bp < W3.heap.size) := Lib.hid (by have h1 := HBD.out; have h2 := h3.size; omega)
            have H47' := Lib.hid (H47.out.grown h3 (fun e => HN.out (by injection e with e; exact e.symm)))
            have HN' : Hid (∀ k, (Value.slice A5 n c5).ownBlock = some k → k ≠ p7) := Lib.hid (fun k e => by
              have hlt := H47.out.lt
              rcases h4 with h4 | h4
              · rw [h4] at e; injection e with e; rw [← e]; exact HN.out
              · rw [h4] at e; injection e with e; omega)
            clear H47 HN
            have H47 := H47'
            have HN := HN'
            clear H47' HN'
            clear h2 h3 h4 H40 HG2 c0 b0 b1 b2 b3 b4
            have c0 := HG3.out.cell HC0.out (by simp)
            have b0 := HG3.out.cell HBX.out.1 (by simp)
            have b1 := HG3.out.cell HBX.out.2.1 (by simp)
            have b2 := HG3.out.cell HBX.out.2.2.1 (by simp)
            have b3 := HG3.out.cell HBX.out.2.2.2.1 (by simp)
            have b4 := HG3.out.cell HBX.out.2.2.2.2 (by simp)
            refine hK _ _ ?_
            clear hK K
            refine wpAny_ready (rs := [9]) (by kernel_rfl) (by simp) ?_
            refine AllReady.cons rfl (fun K hK => ?_) ?_
            · refine step_append_rg rfl (.tmp 57) (.tmp 59) 27 rfl bp 33 (.agg #[.int .u16 0, .int .u8 0, .int .i8 0, .int .i8 0, .int .i64 0]) 5 16 Cmd.cl_len Try.underlying27 Try.info33 rfl (by decide) (.slice A5 n c5) n all rfl H45.out (p7 + 1) (some ⟨p7, 0, none⟩) 1 1 [⟨sq, bt, dx, dy, t⟩] rfl (rc_of_blk H47.out) (Cmd.one _) (n + 1) rfl (by unfold maxLen; omega) (by omega) (by have := HBD.out; omega) ?_
              intro A8 c8 W4 h2 h3 h4
              have HG4 := Lib.hid (grown_own0 HG3.out h3 (fun k e => by have := (H45.out.lt k e).1; have := HBP.out; omega))
              have H48 := Lib.hid h2
              clear h2 h3 h4 H45 H47 HN HG3 c0 b0 b1 b2 b3 b4
              have c0 := HG4.out.cell HC0.out (by simp)
              have b0 := HG4.out.cell HBX.out.1 (by simp)
              have b1 := HG4.out.cell HBX.out.2.1 (by simp)
              have b2 := HG4.out.cell HBX.out.2.2.1 (by simp)
              have b3 := HG4.out.cell HBX.out.2.2.2.1 (by simp)
              have b4 := HG4.out.cell HBX.out.2.2.2.2 (by simp)
              have f0 := (World.frozen?_of_block (a := ⟨gw, 1, none⟩) (HG4.out.block gw HGW.out (by simp))).trans HF0.out
              refine hK _ _ ?_
              clear hK K
              refine take_k (i := 10) (v := ?_) rfl (by kernel_rfl) (by kernel_rfl) (by kernel_rfl) (fun c a w h => hp c _ _ w h) (Or.inl ⟨by rfl, ?_⟩) (fun K hK => ?_)
              rotate_left 1
              · (intro w; go_simp; try with_reducible rfl)
              go_simp
              refine hK _ _ ?_
              clear hK K
              refine take_k (i := 11) (v := ?_) rfl (by kernel_rfl) (by kernel_rfl) (by kernel_rfl) (fun c a w h => hp c _ _ w h) (Or.inl ⟨by rfl, ?_⟩) (fun K hK => ?_)
              rotate_left 1
              · (intro w; go_simp; try with_reducible rfl)
              go_simp
              refine hK _ _ ?_
              clear hK K
              refine wpAny_ready (rs := [12]) (by kernel_rfl) (by simp) ?_
              refine AllReady.cons rfl (fun K hK => ?_) ?_
              · go_simp
                refine hK _ _ ?_
                clear hK K
                refine wpAny_done (by kernel_rfl) ?_ _
                refine hq _ _ _ _ _ _ _ _ _ _ _ _ _ (Lib.hid ⟨only_trans (grown_weak HG4.out _) (only_put (World.grownBy.refl _ _) 1 _), A8, ?_, fun ad e => ?_⟩)
                · exact (HR.out.grown HG4.out).put1 A8 (n + 1) c8 _ (own_rg Cmd.cl_len (by decide) H48.out) (own_caps H48.out).1 (own_caps H48.out).2 (fun ad e => own_far H48.out e HBP.out HGW.out)
                · exact own_ge H48.out e HBP.out
              exact AllReady.nil
            exact AllReady.nil
          exact AllReady.nil
        exact AllReady.nil
      exact AllReady.nil
    refine AllReady.cons rfl (fun K hK => ?_) ?_
    · go_simp
      refine hK _ _ ?_
      clear hK K
      refine wpAny_ready (rs := [1, 8]) (by kernel_rfl) (by simp) ?_
      refine AllReady.cons rfl (fun K hK => ?_) ?_
      · go_simp
        have hown := World.ownsRow_lit (e := 33) (size := 5) W0 #[] 0 (Nat.le_refl _) (by decide) rfl
        have hgr := World.grownBy_alloc W0 (.cells #[] 33) none
        have HG1 := Lib.hid (only_trans HG0.out hgr)
        have HBP : Hid (w.heap.size ≤ W0.heap.size) := Lib.hid HG0.out.size
        obtain ⟨W1, hW⟩ : ∃ W, W0.alloc (.cells #[] 33) = W := ⟨_, rfl⟩
        obtain ⟨bp, hbp⟩ : ∃ bp, W0.heap.size = bp := ⟨_, rfl⟩
        rw [hW, hbp] at hown
        rw [hW] at HG1
        rw [hbp] at HBP
        simp only [hW, hbp]
        have H40 := Lib.hid hown
        have HBD : Hid (bp < W1.heap.size) := Lib.hid (hown.lt bp rfl).2
        clear hown hgr hW hbp HG0 c0 b0 b1 b2 b3 b4
        have c0 := HG1.out.cell HC0.out (by simp)
        have b0 := HG1.out.cell HBX.out.1 (by simp)
        have b1 := HG1.out.cell HBX.out.2.1 (by simp)
        have b2 := HG1.out.cell HBX.out.2.2.1 (by simp)
        have b3 := HG1.out.cell HBX.out.2.2.2.1 (by simp)
        have b4 := HG1.out.cell HBX.out.2.2.2.2 (by simp)
        refine hK _ _ ?_
        clear hK K
        refine wpAny_ready (rs := [6, 8]) (by kernel_rfl) (by simp) ?_
        refine AllReady.cons rfl (fun K hK => ?_) ?_
        · refine step_append_rg rfl (.tmp 52) (.tmp 56) 27 rfl bp 33 (.agg #[.int .u16 0, .int .u8 0, .int .i8 0, .int .i8 0, .int .i64 0]) 5 16 Cmd.cl_len Try.underlying27 Try.info33 rfl (by decide) (.slice (some ⟨bp, 0, none⟩) 0 0) 0 [] rfl H40.out W1.heap.size AA n cX all rfl ((HR.out.grown HG1.out).ra.of_len HN0.out) (Cmd.one _) n (by omega) (by unfold maxLen; omega) (by omega) (by have := (H40.out.lt bp rfl).2; omega) ?_
          intro A5 c5 W2 h2 h3 h4
          have HG2 := Lib.hid (grown_over HG1.out h3 HBP.out)
          rw [List.nil_append] at h2
          have H45 := Lib.hid h2
          have HBD : Hid (bp < W2.heap.size) := Lib.hid (by have h1 := HBD.out; have h2 := h3.size; omega)
          clear h2 h3 h4 H40 HG1 c0 b0 b1 b2 b3 b4
          have c0 := HG2.out.cell HC0.out (by simp)
          have b0 := HG2.out.cell HBX.out.1 (by simp)
          have b1 := HG2.out.cell HBX.out.2.1 (by simp)
          have b2 := HG2.out.cell HBX.out.2.2.1 (by simp)
          have b3 := HG2.out.cell HBX.out.2.2.2.1 (by simp)
          have b4 := HG2.out.cell HBX.out.2.2.2.2 (by simp)
          refine hK _ _ ?_
          clear hK K
          refine wpAny_ready (rs := [8]) (by kernel_rfl) (by simp) ?_
          refine AllReady.cons rfl (fun K hK => ?_) ?_
          · go_simp
            have hblk := Blk.new W2 33 #[.int .u16 sq, .int .u8 bt, .int .i8 dx, .int .i8 dy, .int .i64 t]
            have hgr := World.grownBy_alloc W2 (.cells #[.int .u16 sq, .int .u8 bt, .int .i8 dx, .int .i8 dy, .int .i64 t] 33) none
            have HG3 := Lib.hid (only_trans HG2.out hgr)
            have HO' := Lib.hid (own_kept H45.out hgr)
            have HN : Hid (∀ k, (Value.slice A5 n c5).ownBlock = some k → k ≠ W2.heap.size) := Lib.hid (fun k e => by have := (H45.out.lt k e).2; omega)
            obtain ⟨W3, hW⟩ : ∃ W, W2.alloc (.cells #[.int .u16 sq, .int .u8 bt, .int .i8 dx, .int .i8 dy, .int .i64 t] 33) = W := ⟨_, rfl⟩
            obtain ⟨p7, hp7⟩ : ∃ p, W2.heap.size = p := ⟨_, rfl⟩
            rw [hW, hp7] at hblk
            rw [hW] at HG3 HO'
            have HBD : Hid (bp < W3.heap.size) := Lib.hid (by have h1 := HBD.out; have h2 := hgr.size; rw [hW] at h2; omega)
            rw [hp7] at HN
            clear H45
            have H45 := HO'
            clear HO'
            simp only [hW, hp7]
            have H47 := Lib.hid hblk
            clear hblk hgr hW hp7 HG2 c0 b0 b1 b2 b3 b4
            have c0 := HG3.out.cell HC0.out (by simp)
            have b0 := HG3.out.cell HBX.out.1 (by simp)
            have b1 := HG3.out.cell HBX.out.2.1 (by simp)
            have b2 := HG3.out.cell HBX.out.2.2.1 (by simp)
            have b3 := HG3.out.cell HBX.out.2.2.2.1 (by simp)
            have b4 := HG3.out.cell HBX.out.2.2.2.2 (by simp)
            refine hK _ _ ?_
            clear hK K
            refine wpAny_ready (rs := [9]) (by kernel_rfl) (by simp) ?_
            refine AllReady.cons rfl (fun K hK => ?_) ?_
            · refine step_append_rg rfl (.tmp 57) (.tmp 59) 27 rfl bp 33 (.agg #[.int .u16 0, .int .u8 0, .int .i8 0, .int .i8 0, .int .i64 0]) 5 16 Cmd.cl_len Try.underlying27 Try.info33 rfl (by decide) (.slice A5 n c5) n all rfl H45.out (p7 + 1) (some ⟨p7, 0, none⟩) 1 1 [⟨sq, bt, dx, dy, t⟩] rfl (rc_of_blk H47.out) (Cmd.one _) (n + 1) rfl (by unfold maxLen; omega) (by omega) (by have := HBD.out; omega) ?_
              intro A8 c8 W4 h2 h3 h4
              have HG4 := Lib.hid (grown_own0 HG3.out h3 (fun k e => by have := (H45.out.lt k e).1; have := HBP.out; omega))
              have H48 := Lib.hid h2
              clear h2 h3 h4 H45 H47 HN HG3 c0 b0 b1 b2 b3 b4
              have c0 := HG4.out.cell HC0.out (by simp)
              have b0 := HG4.out.cell HBX.out.1 (by simp)
              have b1 := HG4.out.cell HBX.out.2.1 (by simp)
              have b2 := HG4.out.cell HBX.out.2.2.1 (by simp)
              have b3 := HG4.out.cell HBX.out.2.2.2.1 (by simp)
              have b4 := HG4.out.cell HBX.out.2.2.2.2 (by simp)
              have f0 := (World.frozen?_of_block (a := ⟨gw, 1, none⟩) (HG4.out.block gw HGW.out (by simp))).trans HF0.out
              refine hK _ _ ?_
              clear hK K
              refine take_k (i := 10) (v := ?_) rfl (by kernel_rfl) (by kernel_rfl) (by kernel_rfl) (fun c a w h => hp c _ _ w h) (Or.inl ⟨by rfl, ?_⟩) (fun K hK => ?_)
              rotate_left 1
              · (intro w; go_simp; try with_reducible rfl)
              go_simp
              refine hK _ _ ?_
              clear hK K
              refine take_k (i := 11) (v := ?_) rfl (by kernel_rfl) (by kernel_rfl) (by kernel_rfl) (fun c a w h => hp c _ _ w h) (Or.inl ⟨by rfl, ?_⟩) (fun K hK => ?_)
              rotate_left 1
              · (intro w; go_simp; try with_reducible rfl)
              go_simp
              refine hK _ _ ?_
              clear hK K
              refine wpAny_ready (rs := [12]) (by kernel_rfl) (by simp) ?_
              refine AllReady.cons rfl (fun K hK => ?_) ?_
              · go_simp
                refine hK _ _ ?_
                clear hK K
                refine wpAny_done (by kernel_rfl) ?_ _
                refine hq _ _ _ _ _ _ _ _ _ _ _ _ _ (Lib.hid ⟨only_trans (grown_weak HG4.out _) (only_put (World.grownBy.refl _ _) 1 _), A8, ?_, fun ad e => ?_⟩)
                · exact (HR.out.grown HG4.out).put1 A8 (n + 1) c8 _ (own_rg Cmd.cl_len (by decide) H48.out) (own_caps H48.out).1 (own_caps H48.out).2 (fun ad e => own_far H48.out e HBP.out HGW.out)
                · exact own_ge H48.out e HBP.out
              exact AllReady.nil
            exact AllReady.nil
          exact AllReady.nil
        refine AllReady.cons rfl (fun K hK => ?_) ?_
        · go_simp
          have hblk := Blk.new W1 33 #[.int .u16 sq, .int .u8 bt, .int .i8 dx, .int .i8 dy, .int .i64 t]
          have hgr := World.grownBy_alloc W1 (.cells #[.int .u16 sq, .int .u8 bt, .int .i8 dx, .int .i8 dy, .int .i64 t] 33) none
          have HG2 := Lib.hid (only_trans HG1.out hgr)
          have HO' := Lib.hid (own_kept H40.out hgr)
          have HN : Hid (bp ≠ W1.heap.size) := Lib.hid (by have := (H40.out.lt bp rfl).2; omega)
          obtain ⟨W2, hW⟩ : ∃ W, W1.alloc (.cells #[.int .u16 sq, .int .u8 bt, .int .i8 dx, .int .i8 dy, .int .i64 t] 33) = W := ⟨_, rfl⟩
          obtain ⟨p7, hp7⟩ : ∃ p, W1.heap.size = p := ⟨_, rfl⟩
          rw [hW, hp7] at hblk
          rw [hW] at HG2 HO'
          have HBD : Hid (bp < W2.heap.size) := Lib.hid (by have h1 := HBD.out; have h2 := hgr.size; rw [hW] at h2; omega)
          rw [hp7] at HN
          clear H40
          have H40 := HO'
          clear HO'
          simp only [hW, hp7]
          have H47 := Lib.hid hblk
          clear hblk hgr hW hp7 HG1 c0 b0 b1 b2 b3 b4
          have c0 := HG2.out.cell HC0.out (by simp)
          have b0 := HG2.out.cell HBX.out.1 (by simp)
          have b1 := HG2.out.cell HBX.out.2.1 (by simp)
          have b2 := HG2.out.cell HBX.out.2.2.1 (by simp)
          have b3 := HG2.out.cell HBX.out.2.2.2.1 (by simp)
          have b4 := HG2.out.cell HBX.out.2.2.2.2 (by simp)
          refine hK _ _ ?_
          clear hK K
          refine wpAny_ready (rs := [6]) (by kernel_rfl) (by simp) ?_
          refine AllReady.cons rfl (fun K hK => ?_) ?_
          · refine step_append_rg rfl (.tmp 52) (.tmp 56) 27 rfl bp 33 (.agg #[.int .u16 0, .int .u8 0, .int .i8 0, .int .i8 0, .int .i64 0]) 5 16 Cmd.cl_len Try.underlying27 Try.info33 rfl (by decide) (.slice (some ⟨bp, 0, none⟩) 0 0) 0 [] rfl H40.out W2.heap.size AA n cX all rfl ((HR.out.grown HG2.out).ra.of_len HN0.out) (Cmd.one _) n (by omega) (by unfold maxLen; omega) (by omega) (by have := (H40.out.lt bp rfl).2; omega) ?_
            intro A5 c5 W3 h2 h3 h4
            have HG3 := Lib.hid (grown_over HG2.out h3 HBP.out)
            rw [List.nil_append] at h2
            have H45 := Lib.hid h2
            have HBD : Hid (bp < W3.heap.size) := Lib.hid (by have h1 := HBD.out; have h2 := h3.size; omega)
            have H47' := Lib.hid (H47.out.grown h3 (fun e => HN.out (by injection e with e; exact e.symm)))
            have HN' : Hid (∀ k, (Value.slice A5 n c5).ownBlock = some k → k ≠ p7) := Lib.hid (fun k e => by
              have hlt := H47.out.lt
              rcases h4 with h4 | h4
              · rw [h4] at e; injection e with e; rw [← e]; exact HN.out
              · rw [h4] at e; injection e with e; omega)
            clear H47 HN
            have H47 := H47'
            have HN := HN'
            clear H47' HN'
            clear h2 h3 h4 H40 HG2 c0 b0 b1 b2 b3 b4
            have c0 := HG3.out.cell HC0.out (by simp)
            have b0 := HG3.out.cell HBX.out.1 (by simp)
            have b1 := HG3.out.cell HBX.out.2.1 (by simp)
            have b2 := HG3.out.cell HBX.out.2.2.1 (by simp)
            have b3 := HG3.out.cell HBX.out.2.2.2.1 (by simp)
            have b4 := HG3.out.cell HBX.out.2.2.2.2 (by simp)
            refine hK _ _ ?_
            clear hK K
            refine wpAny_ready (rs := [9]) (by kernel_rfl) (by simp) ?_
            refine AllReady.cons rfl (fun K hK => ?_) ?_
            · refine step_append_rg rfl (.tmp 57) (.tmp 59) 27 rfl bp 33 (.agg #[.int .u16 0, .int .u8 0, .int .i8 0, .int .i8 0, .int .i64 0]) 5 16 Cmd.cl_len Try.underlying27 Try.info33 rfl (by decide) (.slice A5 n c5) n all rfl H45.out (p7 + 1) (some ⟨p7, 0, none⟩) 1 1 [⟨sq, bt, dx, dy, t⟩] rfl (rc_of_blk H47.out) (Cmd.one _) (n + 1) rfl (by unfold maxLen; omega) (by omega) (by have := HBD.out; omega) ?_
              intro A8 c8 W4 h2 h3 h4
              have HG4 := Lib.hid (grown_own0 HG3.out h3 (fun k e => by have := (H45.out.lt k e).1; have := HBP.out; omega))
              have H48 := Lib.hid h2
              clear h2 h3 h4 H45 H47 HN HG3 c0 b0 b1 b2 b3 b4
              have c0 := HG4.out.cell HC0.out (by simp)
              have b0 := HG4.out.cell HBX.out.1 (by simp)
              have b1 := HG4.out.cell HBX.out.2.1 (by simp)
              have b2 := HG4.out.cell HBX.out.2.2.1 (by simp)
              have b3 := HG4.out.cell HBX.out.2.2.2.1 (by simp)
              have b4 := HG4.out.cell HBX.out.2.2.2.2 (by simp)
              have f0 := (World.frozen?_of_block (a := ⟨gw, 1, none⟩) (HG4.out.block gw HGW.out (by simp))).trans HF0.out
              refine hK _ _ ?_
              clear hK K
              refine take_k (i := 10) (v := ?_) rfl (by kernel_rfl) (by kernel_rfl) (by kernel_rfl) (fun c a w h => hp c _ _ w h) (Or.inl ⟨by rfl, ?_⟩) (fun K hK => ?_)
              rotate_left 1
              · (intro w; go_simp; try with_reducible rfl)
              go_simp
              refine hK _ _ ?_
              clear hK K
              refine take_k (i := 11) (v := ?_) rfl (by kernel_rfl) (by kernel_rfl) (by kernel_rfl) (fun c a w h => hp c _ _ w h) (Or.inl ⟨by rfl, ?_⟩) (fun K hK => ?_)
              rotate_left 1
              · (intro w; go_simp; try with_reducible rfl)
              go_simp
              refine hK _ _ ?_
              clear hK K
              refine wpAny_ready (rs := [12]) (by kernel_rfl) (by simp) ?_
              refine AllReady.cons rfl (fun K hK => ?_) ?_
              · go_simp
                refine hK _ _ ?_
                clear hK K
                refine wpAny_done (by kernel_rfl) ?_ _
                refine hq _ _ _ _ _ _ _ _ _ _ _ _ _ (Lib.hid ⟨only_trans (grown_weak HG4.out _) (only_put (World.grownBy.refl _ _) 1 _), A8, ?_, fun ad e => ?_⟩)
                · exact (HR.out.grown HG4.out).put1 A8 (n + 1) c8 _ (own_rg Cmd.cl_len (by decide) H48.out) (own_caps H48.out).1 (own_caps H48.out).2 (fun ad e => own_far H48.out e HBP.out HGW.out)
                · exact own_ge H48.out e HBP.out
              exact AllReady.nil
            exact AllReady.nil
          exact AllReady.nil
        exact AllReady.nil
      refine AllReady.cons rfl (fun K hK => ?_) ?_
      · go_simp
        have hblk := Blk.new W0 33 #[.int .u16 sq, .int .u8 bt, .int .i8 dx, .int .i8 dy, .int .i64 t]
        have hgr := World.grownBy_alloc W0 (.cells #[.int .u16 sq, .int .u8 bt, .int .i8 dx, .int .i8 dy, .int .i64 t] 33) none
        have HG1 := Lib.hid (only_trans HG0.out hgr)
        obtain ⟨W1, hW⟩ : ∃ W, W0.alloc (.cells #[.int .u16 sq, .int .u8 bt, .int .i8 dx, .int .i8 dy, .int .i64 t] 33) = W := ⟨_, rfl⟩
        obtain ⟨p7, hp7⟩ : ∃ p, W0.heap.size = p := ⟨_, rfl⟩
        rw [hW, hp7] at hblk
        rw [hW] at HG1
        simp only [hW, hp7]
        have H47 := Lib.hid hblk
        clear hblk hgr hW hp7 HG0 c0 b0 b1 b2 b3 b4
        have c0 := HG1.out.cell HC0.out (by simp)
        have b0 := HG1.out.cell HBX.out.1 (by simp)
        have b1 := HG1.out.cell HBX.out.2.1 (by simp)
        have b2 := HG1.out.cell HBX.out.2.2.1 (by simp)
        have b3 := HG1.out.cell HBX.out.2.2.2.1 (by simp)
        have b4 := HG1.out.cell HBX.out.2.2.2.2 (by simp)
        refine hK _ _ ?_
        clear hK K
        refine wpAny_ready (rs := [1]) (by kernel_rfl) (by simp) ?_
        refine AllReady.cons rfl (fun K hK => ?_) ?_
        · go_simp
          have hown := World.ownsRow_lit (e := 33) (size := 5) W1 #[] 0 (Nat.le_refl _) (by decide) rfl
          have hgr := World.grownBy_alloc W1 (.cells #[] 33) none
          have HG2 := Lib.hid (only_trans HG1.out hgr)
          have HBP : Hid (w.heap.size ≤ W1.heap.size) := Lib.hid HG1.out.size
          have H47' := Lib.hid (H47.out.grown hgr (by simp))
          have HN : Hid (W1.heap.size ≠ p7) := Lib.hid (by have := H47.out.lt; omega)
          obtain ⟨W2, hW⟩ : ∃ W, W1.alloc (.cells #[] 33) = W := ⟨_, rfl⟩
          obtain ⟨bp, hbp⟩ : ∃ bp, W1.heap.size = bp := ⟨_, rfl⟩
          rw [hW, hbp] at hown
          rw [hW] at HG2 H47'
          rw [hbp] at HBP HN
          simp only [hW, hbp]
          have H40 := Lib.hid hown
          have HBD : Hid (bp < W2.heap.size) := Lib.hid (hown.lt bp rfl).2
          clear H47
          have H47 := H47'
          clear H47'
          clear hown hgr hW hbp HG1 c0 b0 b1 b2 b3 b4
          have c0 := HG2.out.cell HC0.out (by simp)
          have b0 := HG2.out.cell HBX.out.1 (by simp)
          have b1 := HG2.out.cell HBX.out.2.1 (by simp)
          have b2 := HG2.out.cell HBX.out.2.2.1 (by simp)
          have b3 := HG2.out.cell HBX.out.2.2.2.1 (by simp)
          have b4 := HG2.out.cell HBX.out.2.2.2.2 (by simp)
          refine hK _ _ ?_
          clear hK K
          refine wpAny_ready (rs := [6]) (by kernel_rfl) (by simp) ?_
          refine AllReady.cons rfl (fun K hK => ?_) ?_
          · refine step_append_rg rfl (.tmp 52) (.tmp 56) 27 rfl bp 33 (.agg #[.int .u16 0, .int .u8 0, .int .i8 0, .int .i8 0, .int .i64 0]) 5 16 Cmd.cl_len Try.underlying27 Try.info33 rfl (by decide) (.slice (some ⟨bp, 0, none⟩) 0 0) 0 [] rfl H40.out W2.heap.size AA n cX all rfl ((HR.out.grown HG2.out).ra.of_len HN0.out) (Cmd.one _) n (by omega) (by unfold maxLen; omega) (by omega) (by have := (H40.out.lt bp rfl).2; omega) ?_
            intro A5 c5 W3 h2 h3 h4
            have HG3 := Lib.hid (grown_over HG2.out h3 HBP.out)
            rw [List.nil_append] at h2
            have H45 := Lib.hid h2
            have HBD : Hid (bp < W3.heap.size) := Lib.hid (by have h1 := HBD.out; have h2 := h3.size; omega)
            have H47' := Lib.hid (H47.out.grown h3 (fun e => HN.out (by injection e with e; exact e.symm)))
            have HN' : Hid (∀ k, (Value.slice A5 n c5).ownBlock = some k → k ≠ p7) := Lib.hid (fun k e => by
              have hlt := H47.out.lt
              rcases h4 with h4 | h4
              · rw [h4] at e; injection e with e; rw [← e]; exact HN.out
              · rw [h4] at e; injection e with e; omega)
            clear H47 HN
            have H47 := H47'
            have HN := HN'
            clear H47' HN'
            clear h2 h3 h4 H40 HG2 c0 b0 b1 b2 b3 b4
            have c0 := HG3.out.cell HC0.out (by simp)
            have b0 := HG3.out.cell HBX.out.1 (by simp)
            have b1 := HG3.out.cell HBX.out.2.1 (by simp)
            have b2 := HG3.out.cell HBX.out.2.2.1 (by simp)
            have b3 := HG3.out.cell HBX.out.2.2.2.1 (by simp)
            have b4 := HG3.out.cell HBX.out.2.2.2.2 (by simp)
            refine hK _ _ ?_
            clear hK K
            refine wpAny_ready (rs := [9]) (by kernel_rfl) (by simp) ?_
            refine AllReady.cons rfl (fun K hK => ?_) ?_
            · refine step_append_rg rfl (.tmp 57) (.tmp 59) 27 rfl bp 33 (.agg #[.int .u16 0, .int .u8 0, .int .i8 0, .int .i8 0, .int .i64 0]) 5 16 Cmd.cl_len Try.underlying27 Try.info33 rfl (by decide) (.slice A5 n c5) n all rfl H45.out (p7 + 1) (some ⟨p7, 0, none⟩) 1 1 [⟨sq, bt, dx, dy, t⟩] rfl (rc_of_blk H47.out) (Cmd.one _) (n + 1) rfl (by unfold maxLen; omega) (by omega) (by have := HBD.out; omega) ?_
              intro A8 c8 W4 h2 h3 h4
              have HG4 := Lib.hid (grown_own0 HG3.out h3 (fun k e => by have := (H45.out.lt k e).1; have := HBP.out; omega))
              have H48 := Lib.hid h2
              clear h2 h3 h4 H45 H47 HN HG3 c0 b0 b1 b2 b3 b4
              have c0 := HG4.out.cell HC0.out (by simp)
              have b0 := HG4.out.cell HBX.out.1 (by simp)
              have b1 := HG4.out.cell HBX.out.2.1 (by simp)
              have b2 := HG4.out.cell HBX.out.2.2.1 (by simp)
              have b3 := HG4.out.cell HBX.out.2.2.2.1 (by simp)
              have b4 := HG4.out.cell HBX.out.2.2.2.2 (by simp)
              have f0 := (World.frozen?_of_block (a := ⟨gw, 1, none⟩) (HG4.out.block gw HGW.out (by simp))).trans HF0.out
              refine hK _ _ ?_
              clear hK K
              refine take_k (i := 10) (v := ?_) rfl (by kernel_rfl) (by kernel_rfl) (by kernel_rfl) (fun c a w h => hp c _ _ w h) (Or.inl ⟨by rfl, ?_⟩) (fun K hK => ?_)
              rotate_left 1
              · (intro w; go_simp; try with_reducible rfl)
              go_simp
              refine hK _ _ ?_
              clear hK K
              refine take_k (i := 11) (v := ?_) rfl (by kernel_rfl) (by kernel_rfl) (by kernel_rfl) (fun c a w h => hp c _ _ w h) (Or.inl ⟨by rfl, ?_⟩) (fun K hK => ?_)
              rotate_left 1
              · (intro w; go_simp; try with_reducible rfl)
              go_simp
              refine hK _ _ ?_
              clear hK K
              refine wpAny_ready (rs := [12]) (by kernel_rfl) (by simp) ?_
              refine AllReady.cons rfl (fun K hK => ?_) ?_
              · go_simp
                refine hK _ _ ?_
                clear hK K
                refine wpAny_done (by kernel_rfl) ?_ _
                refine hq _ _ _ _ _ _ _ _ _ _ _ _ _ (Lib.hid ⟨only_trans (grown_weak HG4.out _) (only_put (World.grownBy.refl _ _) 1 _), A8, ?_, fun ad e => ?_⟩)
                · exact (HR.out.grown HG4.out).put1 A8 (n + 1) c8 _ (own_rg Cmd.cl_len (by decide) H48.out) (own_caps H48.out).1 (own_caps H48.out).2 (fun ad e => own_far H48.out e HBP.out HGW.out)
                · exact own_ge H48.out e HBP.out
              exact AllReady.nil
            exact AllReady.nil
          exact AllReady.nil
        exact AllReady.nil
      exact AllReady.nil
    refine AllReady.cons rfl (fun K hK => ?_) ?_
    · go_simp
      have hblk := Blk.new W0 33 #[.int .u16 sq, .int .u8 bt, .int .i8 dx, .int .i8 dy, .int .i64 t]
      have hgr := World.grownBy_alloc W0 (.cells #[.int .u16 sq, .int .u8 bt, .int .i8 dx, .int .i8 dy, .int .i64 t] 33) none
      have HG1 := Lib.hid (only_trans HG0.out hgr)
      obtain ⟨W1, hW⟩ : ∃ W, W0.alloc (.cells #[.int .u16 sq, .int .u8 bt, .int .i8 dx, .int .i8 dy, .int .i64 t] 33) = W := ⟨_, rfl⟩
      obtain ⟨p7, hp7⟩ : ∃ p, W0.heap.size = p := ⟨_, rfl⟩
      rw [hW, hp7] at hblk
      rw [hW] at HG1
      simp only [hW, hp7]
      have H47 := Lib.hid hblk
      clear hblk hgr hW hp7 HG0 c0 b0 b1 b2 b3 b4
      have c0 := HG1.out.cell HC0.out (by simp)
      have b0 := HG1.out.cell HBX.out.1 (by simp)
      have b1 := HG1.out.cell HBX.out.2.1 (by simp)
      have b2 := HG1.out.cell HBX.out.2.2.1 (by simp)
      have b3 := HG1.out.cell HBX.out.2.2.2.1 (by simp)
      have b4 := HG1.out.cell HBX.out.2.2.2.2 (by simp)
      refine hK _ _ ?_
      clear hK K
      refine wpAny_ready (rs := [1, 5]) (by kernel_rfl) (by simp) ?_
      refine AllReady.cons rfl (fun K hK => ?_) ?_
      · go_simp
        have hown := World.ownsRow_lit (e := 33) (size := 5) W1 #[] 0 (Nat.le_refl _) (by decide) rfl
        have hgr := World.grownBy_alloc W1 (.cells #[] 33) none
        have HG2 := Lib.hid (only_trans HG1.out hgr)
        have HBP : Hid (w.heap.size ≤ W1.heap.size) := Lib.hid HG1.out.size
        have H47' := Lib.hid (H47.out.grown hgr (by simp))
        have HN : Hid (W1.heap.size ≠ p7) := Lib.hid (by have := H47.out.lt; omega)
        obtain ⟨W2, hW⟩ : ∃ W, W1.alloc (.cells #[] 33) = W := ⟨_, rfl⟩
        obtain ⟨bp, hbp⟩ : ∃ bp, W1.heap.size = bp := ⟨_, rfl⟩
        rw [hW, hbp] at hown
        rw [hW] at HG2 H47'
        rw [hbp] at HBP HN
        simp only [hW, hbp]
        have H40 := Lib.hid hown
        have HBD : Hid (bp < W2.heap.size) := Lib.hid (hown.lt bp rfl).2
        clear H47
        have H47 := H47'
        clear H47'
        clear hown hgr hW hbp HG1 c0 b0 b1 b2 b3 b4
        have c0 := HG2.out.cell HC0.out (by simp)
        have b0 := HG2.out.cell HBX.out.1 (by simp)
        have b1 := HG2.out.cell HBX.out.2.1 (by simp)
        have b2 := HG2.out.cell HBX.out.2.2.1 (by simp)
        have b3 := HG2.out.cell HBX.out.2.2.2.1 (by simp)
        have b4 := HG2.out.cell HBX.out.2.2.2.2 (by simp)
        refine hK _ _ ?_
        clear hK K
        refine wpAny_ready (rs := [5]) (by kernel_rfl) (by simp) ?_
        refine AllReady.cons rfl (fun K hK => ?_) ?_
        · go_simp
          refine hK _ _ ?_
          clear hK K
          refine wpAny_ready (rs := [6]) (by kernel_rfl) (by simp) ?_
          refine AllReady.cons rfl (fun K hK => ?_) ?_
          · refine step_append_rg rfl (.tmp 52) (.tmp 56) 27 rfl bp 33 (.agg #[.int .u16 0, .int .u8 0, .int .i8 0, .int .i8 0, .int .i64 0]) 5 16 Cmd.cl_len Try.underlying27 Try.info33 rfl (by decide) (.slice (some ⟨bp, 0, none⟩) 0 0) 0 [] rfl H40.out W2.heap.size AA n cX all rfl ((HR.out.grown HG2.out).ra.of_len HN0.out) (Cmd.one _) n (by omega) (by unfold maxLen; omega) (by omega) (by have := (H40.out.lt bp rfl).2; omega) ?_
            intro A5 c5 W3 h2 h3 h4
            have HG3 := Lib.hid (grown_over HG2.out h3 HBP.out)
            rw [List.nil_append] at h2
            have H45 := Lib.hid h2
            have HBD : Hid (bp < W3.heap.size) := Lib.hid (by have h1 := HBD.out; have h2 := h3.size; omega)
            have H47' := Lib.hid (H47.out.grown h3 (fun e => HN.out (by injection e with e; exact e.symm)))
            have HN' : Hid (∀ k, (Value.slice A5 n c5).ownBlock = some k → k ≠ p7) := Lib.hid (fun k e => by
              have hlt := H47.out.lt
              rcases h4 with h4 | h4
              · rw [h4] at e; injection e with e; rw [← e]; exact HN.out
              · rw [h4] at e; injection e with e; omega)
            clear H47 HN
            have H47 := H47'
            have HN := HN'
            clear H47' HN'
            clear h2 h3 h4 H40 HG2 c0 b0 b1 b2 b3 b4
            have c0 := HG3.out.cell HC0.out (by simp)
            have b0 := HG3.out.cell HBX.out.1 (by simp)
            have b1 := HG3.out.cell HBX.out.2.1 (by simp)
            have b2 := HG3.out.cell HBX.out.2.2.1 (by simp)
            have b3 := HG3.out.cell HBX.out.2.2.2.1 (by simp)
            have b4 := HG3.out.cell HBX.out.2.2.2.2 (by simp)
            refine hK _ _ ?_
            clear hK K
            refine wpAny_ready (rs := [9]) (by kernel_rfl) (by simp) ?_
            refine AllReady.cons rfl (fun K hK => ?_) ?_
            · refine step_append_rg rfl (.tmp 57) (.tmp 59) 27 rfl bp 33 (.agg #[.int .u16 0, .int .u8 0, .int .i8 0, .int .i8 0, .int .i64 0]) 5 16 Cmd.cl_len Try.underlying27 Try.info33 rfl (by decide) (.slice A5 n c5) n all rfl H45.out (p7 + 1) (some ⟨p7, 0, none⟩) 1 1 [⟨sq, bt, dx, dy, t⟩] rfl (rc_of_blk H47.out) (Cmd.one _) (n + 1) rfl (by unfold maxLen; omega) (by omega) (by have := HBD.out; omega) ?_
              intro A8 c8 W4 h2 h3 h4
              have HG4 := Lib.hid (grown_own0 HG3.out h3 (fun k e => by have := (H45.out.lt k e).1; have := HBP.out; omega))
              have H48 := Lib.hid h2
              clear h2 h3 h4 H45 H47 HN HG3 c0 b0 b1 b2 b3 b4
              have c0 := HG4.out.cell HC0.out (by simp)
              have b0 := HG4.out.cell HBX.out.1 (by simp)
              have b1 := HG4.out.cell HBX.out.2.1 (by simp)
              have b2 := HG4.out.cell HBX.out.2.2.1 (by simp)
              have b3 := HG4.out.cell HBX.out.2.2.2.1 (by simp)
              have b4 := HG4.out.cell HBX.out.2.2.2.2 (by simp)
              have f0 := (World.frozen?_of_block (a := ⟨gw, 1, none⟩) (HG4.out.block gw HGW.out (by simp))).trans HF0.out
              refine hK _ _ ?_
              clear hK K
              refine take_k (i := 10) (v := ?_) rfl (by kernel_rfl) (by kernel_rfl) (by kernel_rfl) (fun c a w h => hp c _ _ w h) (Or.inl ⟨by rfl, ?_⟩) (fun K hK => ?_)
              rotate_left 1
              · (intro w; go_simp; try with_reducible rfl)
              go_simp
              refine hK _ _ ?_
              clear hK K
              refine take_k (i := 11) (v := ?_) rfl (by kernel_rfl) (by kernel_rfl) (by kernel_rfl) (fun c a w h => hp c _ _ w h) (Or.inl ⟨by rfl, ?_⟩) (fun K hK => ?_)
              rotate_left 1
              · (intro w; go_simp; try with_reducible rfl)
              go_simp
              refine hK _ _ ?_
              clear hK K
              refine wpAny_ready (rs := [12]) (by kernel_rfl) (by simp) ?_
              refine AllReady.cons rfl (fun K hK => ?_) ?_
              · go_simp
                refine hK _ _ ?_
                clear hK K
                refine wpAny_done (by kernel_rfl) ?_ _
                refine hq _ _ _ _ _ _ _ _ _ _ _ _ _ (Lib.hid ⟨only_trans (grown_weak HG4.out _) (only_put (World.grownBy.refl _ _) 1 _), A8, ?_, fun ad e => ?_⟩)
                · exact (HR.out.grown HG4.out).put1 A8 (n + 1) c8 _ (own_rg Cmd.cl_len (by decide) H48.out) (own_caps H48.out).1 (own_caps H48.out).2 (fun ad e => own_far H48.out e HBP.out HGW.out)
                · exact own_ge H48.out e HBP.out
              exact AllReady.nil
            exact AllReady.nil
          exact AllReady.nil
        exact AllReady.nil
      refine AllReady.cons rfl (fun K hK => ?_) ?_
      · go_simp
        refine hK _ _ ?_
        clear hK K
        refine wpAny_ready (rs := [1]) (by kernel_rfl) (by simp) ?_
        refine AllReady.cons rfl (fun K hK => ?_) ?_
        · go_simp
          have hown := World.ownsRow_lit (e := 33) (size := 5) W1 #[] 0 (Nat.le_refl _) (by decide) rfl
          have hgr := World.grownBy_alloc W1 (.cells #[] 33) none
          have HG2 := Lib.hid (only_trans HG1.out hgr)
          have HBP : Hid (w.heap.size ≤ W1.heap.size) := Lib.hid HG1.out.size
          have H47' := Lib.hid (H47.out.grown hgr (by simp))
          have HN : Hid (W1.heap.size ≠ p7) := Lib.hid (by have := H47.out.lt; omega)
          obtain ⟨W2, hW⟩ : ∃ W, W1.alloc (.cells #[] 33) = W := ⟨_, rfl⟩
          obtain ⟨bp, hbp⟩ : ∃ bp, W1.heap.size = bp := ⟨_, rfl⟩
          rw [hW, hbp] at hown
          rw [hW] at HG2 H47'
          rw [hbp] at HBP HN
          simp only [hW, hbp]
          have H40 := Lib.hid hown
          have HBD : Hid (bp < W2.heap.size) := Lib.hid (hown.lt bp rfl).2
          clear H47
          have H47 := H47'
          clear H47'
          clear hown hgr hW hbp HG1 c0 b0 b1 b2 b3 b4
          have c0 := HG2.out.cell HC0.out (by simp)
          have b0 := HG2.out.cell HBX.out.1 (by simp)
          have b1 := HG2.out.cell HBX.out.2.1 (by simp)
          have b2 := HG2.out.cell HBX.out.2.2.1 (by simp)
          have b3 := HG2.out.cell HBX.out.2.2.2.1 (by simp)
          have b4 := HG2.out.cell HBX.out.2.2.2.2 (by simp)
          refine hK _ _ ?_
          clear hK K
          refine wpAny_ready (rs := [6]) (by kernel_rfl) (by simp) ?_
          refine AllReady.cons rfl (fun K hK => ?_) ?_
          · refine step_append_rg rfl (.tmp 52) (.tmp 56) 27 rfl bp 33 (.agg #[.int .u16 0, .int .u8 0, .int .i8 0, .int .i8 0, .int .i64 0]) 5 16 Cmd.cl_len Try.underlying27 Try.info33 rfl (by decide) (.slice (some ⟨bp, 0, none⟩) 0 0) 0 [] rfl H40.out W2.heap.size AA n cX all rfl ((HR.out.grown HG2.out).ra.of_len HN0.out) (Cmd.one _) n (by omega) (by unfold maxLen; omega) (by omega) (by have := (H40.out.lt bp rfl).2; omega) ?_
            intro A5 c5 W3 h2 h3 h4
            have HG3 := Lib.hid (grown_over HG2.out h3 HBP.out)
            rw [List.nil_append] at h2
            have H45 := Lib.hid h2
            have HBD : Hid (bp < W3.heap.size) := Lib.hid (by have h1 := HBD.out; have h2 := h3.size; omega)
            have H47' := Lib.hid (H47.out.grown h3 (fun e => HN.out (by injection e with e; exact e.symm)))
            have HN' : Hid (∀ k, (Value.slice A5 n c5).ownBlock = some k → k ≠ p7) := Lib.hid (fun k e => by
              have hlt := H47.out.lt
              rcases h4 with h4 | h4
              · rw [h4] at e; injection e with e; rw [← e]; exact HN.out
              · rw [h4] at e; injection e with e; omega)
            clear H47 HN
            have H47 := H47'
            have HN := HN'
            clear H47' HN'
            clear h2 h3 h4 H40 HG2 c0 b0 b1 b2 b3 b4
            have c0 := HG3.out.cell HC0.out (by simp)
            have b0 := HG3.out.cell HBX.out.1 (by simp)
            have b1 := HG3.out.cell HBX.out.2.1 (by simp)
            have b2 := HG3.out.cell HBX.out.2.2.1 (by simp)
            have b3 := HG3.out.cell HBX.out.2.2.2.1 (by simp)
            have b4 := HG3.out.cell HBX.out.2.2.2.2 (by simp)
            refine hK _ _ ?_
            clear hK K
            refine wpAny_ready (rs := [9]) (by kernel_rfl) (by simp) ?_
            refine AllReady.cons rfl (fun K hK => ?_) ?_
            · refine step_append_rg rfl (.tmp 57) (.tmp 59) 27 rfl bp 33 (.agg #[.int .u16 0, .int .u8 0, .int .i8 0, .int .i8 0, .int .i64 0]) 5 16 Cmd.cl_len Try.underlying27 Try.info33 rfl (by decide) (.slice A5 n c5) n all rfl H45.out (p7 + 1) (some ⟨p7, 0, none⟩) 1 1 [⟨sq, bt, dx, dy, t⟩] rfl (rc_of_blk H47.out) (Cmd.one _) (n + 1) rfl (by unfold maxLen; omega) (by omega) (by have := HBD.out; omega) ?_
              intro A8 c8 W4 h2 h3 h4
              have HG4 := Lib.hid (grown_own0 HG3.out h3 (fun k e => by have := (H45.out.lt k e).1; have := HBP.out; omega))
              have H48 := Lib.hid h2
              clear h2 h3 h4 H45 H47 HN HG3 c0 b0 b1 b2 b3 b4
              have c0 := HG4.out.cell HC0.out (by simp)
              have b0 := HG4.out.cell HBX.out.1 (by simp)
              have b1 := HG4.out.cell HBX.out.2.1 (by simp)
              have b2 := HG4.out.cell HBX.out.2.2.1 (by simp)
              have b3 := HG4.out.cell HBX.out.2.2.2.1 (by simp)
              have b4 := HG4.out.cell HBX.out.2.2.2.2 (by simp)
              have f0 := (World.frozen?_of_block (a := ⟨gw, 1, none⟩) (HG4.out.block gw HGW.out (by simp))).trans HF0.out
              refine hK _ _ ?_
              clear hK K
              refine take_k (i := 10) (v := ?_) rfl (by kernel_rfl) (by kernel_rfl) (by kernel_rfl) (fun c a w h => hp c _ _ w h) (Or.inl ⟨by rfl, ?_⟩) (fun K hK => ?_)
              rotate_left 1
              · (intro w; go_simp; try with_reducible rfl)
              go_simp
              refine hK _ _ ?_
              clear hK K
              refine take_k (i := 11) (v := ?_) rfl (by kernel_rfl) (by kernel_rfl) (by kernel_rfl) (fun c a w h => hp c _ _ w h) (Or.inl ⟨by rfl, ?_⟩) (fun K hK => ?_)
              rotate_left 1
              · (intro w; go_simp; try with_reducible rfl)
              go_simp
              refine hK _ _ ?_
              clear hK K
              refine wpAny_ready (rs := [12]) (by kernel_rfl) (by simp) ?_
              refine AllReady.cons rfl (fun K hK => ?_) ?_
              · go_simp
                refine hK _ _ ?_
                clear hK K
                refine wpAny_done (by kernel_rfl) ?_ _
                refine hq _ _ _ _ _ _ _ _ _ _ _ _ _ (Lib.hid ⟨only_trans (grown_weak HG4.out _) (only_put (World.grownBy.refl _ _) 1 _), A8, ?_, fun ad e => ?_⟩)
                · exact (HR.out.grown HG4.out).put1 A8 (n + 1) c8 _ (own_rg Cmd.cl_len (by decide) H48.out) (own_caps H48.out).1 (own_caps H48.out).2 (fun ad e => own_far H48.out e HBP.out HGW.out)
                · exact own_ge H48.out e HBP.out
              exact AllReady.nil
            exact AllReady.nil
          exact AllReady.nil
        exact AllReady.nil
      exact AllReady.nil
    exact AllReady.nil
  exact AllReady.nil
end Go.Proofs.Ytehlehfljgphkaa
