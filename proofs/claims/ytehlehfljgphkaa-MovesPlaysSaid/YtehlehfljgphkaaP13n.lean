import Derived.Test.YtehlehfljgphkaaPl
namespace Go.Proofs.Ytehlehfljgphkaa
open Go.RowKit

theorem st_cells {w : World} {k : Nat} {ak : Bool} {q sq bt dx dy t : Int} (h : Blk w k 35 #[.bool ak, .int .u16 q, .int .u16 sq, .int .u8 bt, .int .i8 dx, .int .i8 dy, .int .i64 t]) : w.cell? ⟨k, 2, none⟩ = some (.int .u16 sq) ∧ w.cell? ⟨k, 3, none⟩ = some (.int .u8 bt) ∧ w.cell? ⟨k, 4, none⟩ = some (.int .i8 dx) ∧ w.cell? ⟨k, 5, none⟩ = some (.int .i8 dy) ∧ w.cell? ⟨k, 6, none⟩ = some (.int .i64 t) :=
  ⟨h.cell 2, h.cell 3, h.cell 4, h.cell 5, h.cell 6⟩
/-- Region 13 of function 3. -/
noncomputable def p13nC : Code := (Try.f3.body.bind (regOf 13)).getD .skip
set_option maxRecDepth 100000 in
set_option maxHeartbeats 8000000 in
theorem p13n {x0 x1 x2 x3 x6 x8 x9 x10 x11 x12 x13 x14 x15 x16 x17 x18 x19 x20 x21 x22 x23 x24 x25 x26 x27 x28 x29 x30 x31 x32 x33 x34 x35 x36 x37 x38 x39 x40 x41 x42 x43 x44 x45 x46 x47 x48 x49 x50 x51 x52 x53 x54 x55 x56 x57 x58 x59 x60 x61 x62 x63 x64 x65 x66 x67 x68 x69 x70 x71 x72 x73 x74 x75 x76 x77 x78 x79 x80 x81 x82 x83 x84 x85 x86 x87 x88 x89 x90 : Value} {w0 w : World} {g gw ks : Nat} {ak : Bool} {q sq bt dx dy t : Int} {l all : List Cmd} {s : Bool} {last : Int} {v : Value} {AL AA : Option Addr}
    (HT : Hid (Two17 w0 w g gw l l all s last v AL AA)) (HB : Hid (Blk w ks 35 #[.bool ak, .int .u16 q, .int .u16 sq, .int .u8 bt, .int .i8 dx, .int .i8 dy, .int .i64 t])) (hq : 0 ≤ sq ∧ sq < 65536) (HS : Hid (∀ c ∈ all, 0 ≤ c.seq ∧ c.seq < 65536)) (HLA : Hid (all.length ≤ 1000000)) (HTI : Hid (Tied s last all))
    (HL : Hid (l.length ≤ 64)) {k : Int} (HK : Hid (addC s last l.length ⟨sq, bt, dx, dy, t⟩ = k)) (hk : k ≠ 0) :
    Code.wp Try.prog p13nC (Leaves (puts ⟨#[x0, x1, x2, x3, .pointer (some ⟨g, 0, none⟩), .pointer (some ⟨gw, 0, none⟩), x6, .pointer (some ⟨ks, 0, none⟩), x8, x9, x10, x11, x12, x13, x14, x15, x16, x17, x18, x19, x20, x21, x22, x23, x24, x25, x26, x27, x28, x29, x30, x31, x32, x33, x34, x35, x36, x37, x38, x39, x40, x41, x42, x43, x44, x45, x46, x47, x48, x49, x50, x51, x52, x53, x54, x55, x56, x57, x58, x59, x60, x61, x62, x63, x64, x65, x66, x67, x68, x69, x70, x71, x72, x73, x74, x75, x76, x77, x78, x79, x80, x81, x82, x83, x84, x85, x86, x87, x88, x89, x90], []⟩ [(42, .pointer (some ⟨g, 0, none⟩)), (43, .pointer (some ⟨ks, 2, none⟩)), (44, .agg #[.int .u16 sq, .int .u8 bt, .int .i8 dx, .int .i8 dy, .int .i64 t]), (45, .int .i64 (k)), (46, .pointer (some ⟨gw, 0, none⟩)), (47, .pointer (some ⟨ks, 2, none⟩)), (48, .agg #[.int .u16 sq, .int .u8 bt, .int .i8 dx, .int .i8 dy, .int .i64 t]), (49, .int .i64 (k)), (50, .bool false)]) (fun w' => Hid (Two17 w0 w' g gw l l all s last v AL AA))) ⟨#[x0, x1, x2, x3, .pointer (some ⟨g, 0, none⟩), .pointer (some ⟨gw, 0, none⟩), x6, .pointer (some ⟨ks, 0, none⟩), x8, x9, x10, x11, x12, x13, x14, x15, x16, x17, x18, x19, x20, x21, x22, x23, x24, x25, x26, x27, x28, x29, x30, x31, x32, x33, x34, x35, x36, x37, x38, x39, x40, x41, x42, x43, x44, x45, x46, x47, x48, x49, x50, x51, x52, x53, x54, x55, x56, x57, x58, x59, x60, x61, x62, x63, x64, x65, x66, x67, x68, x69, x70, x71, x72, x73, x74, x75, x76, x77, x78, x79, x80, x81, x82, x83, x84, x85, x86, x87, x88, x89, x90], []⟩ w := by
  conv => arg 2; whnf
  have hkk : (k != k) = false := by simp
  refine wp_region_any (by kernel_rfl) ?_
  try (change wpAny _ _ _ _ _ _ _ (World.drew _))
  have HT0 := Lib.hid HT.out.drew_
  have HB0 := Lib.hid HB.out.drew_
  obtain ⟨W0, hW⟩ : ∃ W, w.drew = W := ⟨_, rfl⟩
  rw [hW] at HT0 HB0 ⊢
  clear hW
  obtain ⟨b0, b1, b2, b3, b4⟩ := st_cells HB0.out
  refine take_k (i := 0) (v := ?_) rfl (by kernel_rfl) (by kernel_rfl) (by kernel_rfl) Leaves.panic (Or.inl ⟨by rfl, ?_⟩) (fun K hK => ?_)
  rotate_left 1
  · (intro w; go_simp; try with_reducible rfl)
  go_simp
  refine hK _ _ ?_
  clear hK K
  refine take_k (i := 1) (v := ?_) rfl (by kernel_rfl) (by kernel_rfl) (by kernel_rfl) Leaves.panic (Or.inl ⟨by rfl, ?_⟩) (fun K hK => ?_)
  rotate_left 1
  · (intro w; go_simp; try with_reducible rfl)
  go_simp
  refine hK _ _ ?_
  clear hK K
  refine take_k (i := 4) (v := ?_) rfl (by kernel_rfl) (by kernel_rfl) (by kernel_rfl) Leaves.panic (Or.inl ⟨by rfl, ?_⟩) (fun K hK => ?_)
  rotate_left 1
  · (intro w; go_simp; try with_reducible rfl)
  go_simp
  refine hK _ _ ?_
  clear hK K
  refine take_k (i := 5) (v := ?_) rfl (by kernel_rfl) (by kernel_rfl) (by kernel_rfl) Leaves.panic (Or.inl ⟨by rfl, ?_⟩) (fun K hK => ?_)
  rotate_left 1
  · (intro w; go_simp; try with_reducible rfl)
  go_simp
  refine hK _ _ ?_
  clear hK K
  refine wpAny_ready (rs := [2, 6]) (by kernel_rfl) (by simp) ?_
  refine AllReady.cons rfl (fun K hK => ?_) ?_
  · go_simp
    refine hK _ _ ?_
    clear hK K
    refine wpAny_ready (rs := [3, 6]) (by kernel_rfl) (by simp) ?_
    refine AllReady.cons rfl (fun K hK => ?_) ?_
    · go_simp
      refine (add_no g l s last v sq bt dx dy t _ HT0.out.own.mv HL.out (by rw [HK.out]; exact hk)).mono ?_
      rintro e w1 ⟨rfl, h1⟩
      rw [HK.out]
      have HT1 := Lib.hid (HT0.out.grown h1)
      have HB1 := Lib.hid (HB0.out.grown h1 (by simp))
      clear HB0 b0 b1 b2 b3 b4
      have HB0 := HB1
      clear HB1
      obtain ⟨b0, b1, b2, b3, b4⟩ := st_cells HB0.out
      clear h1
      clear HT0
      have HT0 := HT1
      clear HT1
      try go_simp
      refine hK _ _ ?_
      clear hK K
      refine wpAny_ready (rs := [6]) (by kernel_rfl) (by simp) ?_
      refine AllReady.cons rfl (fun K hK => ?_) ?_
      · go_simp
        refine hK _ _ ?_
        clear hK K
        refine wpAny_ready (rs := [7]) (by kernel_rfl) (by simp) ?_
        refine AllReady.cons rfl (fun K hK => ?_) ?_
        · go_simp
          refine (refadd_no gw l all _ _ s last sq bt dx dy t hq HS.out HL.out HLA.out HTI.out _ HT0.out.rm (by rw [HK.out]; exact hk)).mono ?_
          rintro e w1 ⟨rfl, h1⟩
          rw [HK.out]
          have HT1 := Lib.hid (HT0.out.grown h1)
          have HB1 := Lib.hid (HB0.out.grown h1 (by simp))
          clear HB0 b0 b1 b2 b3 b4
          have HB0 := HB1
          clear HB1
          obtain ⟨b0, b1, b2, b3, b4⟩ := st_cells HB0.out
          clear h1
          clear HT0
          have HT0 := HT1
          clear HT1
          try go_simp
          refine hK _ _ ?_
          clear hK K
          refine take_k (i := 8) (v := ?_) rfl (by kernel_rfl) (by kernel_rfl) (by kernel_rfl) Leaves.panic (Or.inl ⟨by rfl, ?_⟩) (fun K hK => ?_)
          rotate_left 1
          · (intro w; go_simp; try with_reducible rfl)
          go_simp
          refine hK _ _ ?_
          clear hK K
          refine wpAny_done (by kernel_rfl) ?_ _
          refine ⟨rfl, ?_, HT0⟩
          simp only [puts]
          go_simp
        exact AllReady.nil
      exact AllReady.nil
    refine AllReady.cons rfl (fun K hK => ?_) ?_
    · go_simp
      refine hK _ _ ?_
      clear hK K
      refine wpAny_ready (rs := [3]) (by kernel_rfl) (by simp) ?_
      refine AllReady.cons rfl (fun K hK => ?_) ?_
      · go_simp
        refine (add_no g l s last v sq bt dx dy t _ HT0.out.own.mv HL.out (by rw [HK.out]; exact hk)).mono ?_
        rintro e w1 ⟨rfl, h1⟩
        rw [HK.out]
        have HT1 := Lib.hid (HT0.out.grown h1)
        have HB1 := Lib.hid (HB0.out.grown h1 (by simp))
        clear HB0 b0 b1 b2 b3 b4
        have HB0 := HB1
        clear HB1
        obtain ⟨b0, b1, b2, b3, b4⟩ := st_cells HB0.out
        clear h1
        clear HT0
        have HT0 := HT1
        clear HT1
        try go_simp
        refine hK _ _ ?_
        clear hK K
        refine wpAny_ready (rs := [7]) (by kernel_rfl) (by simp) ?_
        refine AllReady.cons rfl (fun K hK => ?_) ?_
        · go_simp
          refine (refadd_no gw l all _ _ s last sq bt dx dy t hq HS.out HL.out HLA.out HTI.out _ HT0.out.rm (by rw [HK.out]; exact hk)).mono ?_
          rintro e w1 ⟨rfl, h1⟩
          rw [HK.out]
          have HT1 := Lib.hid (HT0.out.grown h1)
          have HB1 := Lib.hid (HB0.out.grown h1 (by simp))
          clear HB0 b0 b1 b2 b3 b4
          have HB0 := HB1
          clear HB1
          obtain ⟨b0, b1, b2, b3, b4⟩ := st_cells HB0.out
          clear h1
          clear HT0
          have HT0 := HT1
          clear HT1
          try go_simp
          refine hK _ _ ?_
          clear hK K
          refine take_k (i := 8) (v := ?_) rfl (by kernel_rfl) (by kernel_rfl) (by kernel_rfl) Leaves.panic (Or.inl ⟨by rfl, ?_⟩) (fun K hK => ?_)
          rotate_left 1
          · (intro w; go_simp; try with_reducible rfl)
          go_simp
          refine hK _ _ ?_
          clear hK K
          refine wpAny_done (by kernel_rfl) ?_ _
          refine ⟨rfl, ?_, HT0⟩
          simp only [puts]
          go_simp
        exact AllReady.nil
      exact AllReady.nil
    exact AllReady.nil
  refine AllReady.cons rfl (fun K hK => ?_) ?_
  · go_simp
    refine hK _ _ ?_
    clear hK K
    refine wpAny_ready (rs := [2]) (by kernel_rfl) (by simp) ?_
    refine AllReady.cons rfl (fun K hK => ?_) ?_
    · go_simp
      refine hK _ _ ?_
      clear hK K
      refine wpAny_ready (rs := [3]) (by kernel_rfl) (by simp) ?_
      refine AllReady.cons rfl (fun K hK => ?_) ?_
      · go_simp
        refine (add_no g l s last v sq bt dx dy t _ HT0.out.own.mv HL.out (by rw [HK.out]; exact hk)).mono ?_
        rintro e w1 ⟨rfl, h1⟩
        rw [HK.out]
        have HT1 := Lib.hid (HT0.out.grown h1)
        have HB1 := Lib.hid (HB0.out.grown h1 (by simp))
        clear HB0 b0 b1 b2 b3 b4
        have HB0 := HB1
        clear HB1
        obtain ⟨b0, b1, b2, b3, b4⟩ := st_cells HB0.out
        clear h1
        clear HT0
        have HT0 := HT1
        clear HT1
        try go_simp
        refine hK _ _ ?_
        clear hK K
        refine wpAny_ready (rs := [7]) (by kernel_rfl) (by simp) ?_
        refine AllReady.cons rfl (fun K hK => ?_) ?_
        · go_simp
          refine (refadd_no gw l all _ _ s last sq bt dx dy t hq HS.out HL.out HLA.out HTI.out _ HT0.out.rm (by rw [HK.out]; exact hk)).mono ?_
          rintro e w1 ⟨rfl, h1⟩
          rw [HK.out]
          have HT1 := Lib.hid (HT0.out.grown h1)
          have HB1 := Lib.hid (HB0.out.grown h1 (by simp))
          clear HB0 b0 b1 b2 b3 b4
          have HB0 := HB1
          clear HB1
          obtain ⟨b0, b1, b2, b3, b4⟩ := st_cells HB0.out
          clear h1
          clear HT0
          have HT0 := HT1
          clear HT1
          try go_simp
          refine hK _ _ ?_
          clear hK K
          refine take_k (i := 8) (v := ?_) rfl (by kernel_rfl) (by kernel_rfl) (by kernel_rfl) Leaves.panic (Or.inl ⟨by rfl, ?_⟩) (fun K hK => ?_)
          rotate_left 1
          · (intro w; go_simp; try with_reducible rfl)
          go_simp
          refine hK _ _ ?_
          clear hK K
          refine wpAny_done (by kernel_rfl) ?_ _
          refine ⟨rfl, ?_, HT0⟩
          simp only [puts]
          go_simp
        exact AllReady.nil
      exact AllReady.nil
    exact AllReady.nil
  exact AllReady.nil
end Go.Proofs.Ytehlehfljgphkaa
