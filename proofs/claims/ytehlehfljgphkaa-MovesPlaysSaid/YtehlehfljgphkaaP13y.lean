import Derived.Test.YtehlehfljgphkaaPl
namespace Go.Proofs.Ytehlehfljgphkaa
open Go.RowKit

theorem st_cellsy {w : World} {k : Nat} {ak : Bool} {q sq bt dx dy t : Int} (h : Blk w k 35 #[.bool ak, .int .u16 q, .int .u16 sq, .int .u8 bt, .int .i8 dx, .int .i8 dy, .int .i64 t]) : w.cell? ⟨k, 2, none⟩ = some (.int .u16 sq) ∧ w.cell? ⟨k, 3, none⟩ = some (.int .u8 bt) ∧ w.cell? ⟨k, 4, none⟩ = some (.int .i8 dx) ∧ w.cell? ⟨k, 5, none⟩ = some (.int .i8 dy) ∧ w.cell? ⟨k, 6, none⟩ = some (.int .i64 t) :=
  ⟨h.cell 2, h.cell 3, h.cell 4, h.cell 5, h.cell 6⟩
theorem row_lt17 {w : World} {B n : Nat} {A : Option Addr} {xs : List Cmd} (h : Rc w B A n xs) (hn : 0 < n) {ad : Addr} (e : A = some ad) : ad.block < B := by
  obtain ⟨b, off, e', hb, _⟩ := h.2 hn
  rw [e] at e'
  injection e' with e'
  rw [e']
  exact hb
/-- Region 13 of function 3. -/
noncomputable def p13yC : Code := (Try.f3.body.bind (regOf 13)).getD .skip
set_option maxRecDepth 100000 in
set_option maxHeartbeats 8000000 in
theorem p13y {x0 x1 x2 x3 x6 x8 x9 x10 x11 x12 x13 x14 x15 x16 x17 x18 x19 x20 x21 x22 x23 x24 x25 x26 x27 x28 x29 x30 x31 x32 x33 x34 x35 x36 x37 x38 x39 x40 x41 x42 x43 x44 x45 x46 x47 x48 x49 x50 x51 x52 x53 x54 x55 x56 x57 x58 x59 x60 x61 x62 x63 x64 x65 x66 x67 x68 x69 x70 x71 x72 x73 x74 x75 x76 x77 x78 x79 x80 x81 x82 x83 x84 x85 x86 x87 x88 x89 x90 : Value} {w0 w : World} {g gw ks : Nat} {ak : Bool} {q sq bt dx dy t : Int} {l all : List Cmd} {s : Bool} {last : Int} {v : Value} {AL AA : Option Addr}
    (HT : Hid (Two17 w0 w g gw l l all s last v AL AA)) (HB : Hid (Blk w ks 35 #[.bool ak, .int .u16 q, .int .u16 sq, .int .u8 bt, .int .i8 dx, .int .i8 dy, .int .i64 t])) (hq : 0 ≤ sq ∧ sq < 65536) (HS : Hid (∀ c ∈ all, 0 ≤ c.seq ∧ c.seq < 65536)) (HLA : Hid (all.length ≤ 1000000)) (HTI : Hid (Tied s last all))
    (HA : Hid (Apt w0 g gw v AL AA ks)) (HL2 : Hid (l.length < 64)) (hrt : rightB ⟨sq, bt, dx, dy, t⟩ = true) (HNW : Hid (s = true → newer sq last = true)) :
    Code.wp Try.prog p13yC (Leaves (puts ⟨#[x0, x1, x2, x3, .pointer (some ⟨g, 0, none⟩), .pointer (some ⟨gw, 0, none⟩), x6, .pointer (some ⟨ks, 0, none⟩), x8, x9, x10, x11, x12, x13, x14, x15, x16, x17, x18, x19, x20, x21, x22, x23, x24, x25, x26, x27, x28, x29, x30, x31, x32, x33, x34, x35, x36, x37, x38, x39, x40, x41, x42, x43, x44, x45, x46, x47, x48, x49, x50, x51, x52, x53, x54, x55, x56, x57, x58, x59, x60, x61, x62, x63, x64, x65, x66, x67, x68, x69, x70, x71, x72, x73, x74, x75, x76, x77, x78, x79, x80, x81, x82, x83, x84, x85, x86, x87, x88, x89, x90], []⟩ [(42, .pointer (some ⟨g, 0, none⟩)), (43, .pointer (some ⟨ks, 2, none⟩)), (44, .agg #[.int .u16 sq, .int .u8 bt, .int .i8 dx, .int .i8 dy, .int .i64 t]), (45, .int .i64 (0)), (46, .pointer (some ⟨gw, 0, none⟩)), (47, .pointer (some ⟨ks, 2, none⟩)), (48, .agg #[.int .u16 sq, .int .u8 bt, .int .i8 dx, .int .i8 dy, .int .i64 t]), (49, .int .i64 (0)), (50, .bool false)]) (fun w' => Hid (∃ v' AL' AA', Two17 w0 w' g gw (l ++ [⟨sq, bt, dx, dy, t⟩]) (l ++ [⟨sq, bt, dx, dy, t⟩]) (all ++ [⟨sq, bt, dx, dy, t⟩]) true sq v' AL' AA'))) ⟨#[x0, x1, x2, x3, .pointer (some ⟨g, 0, none⟩), .pointer (some ⟨gw, 0, none⟩), x6, .pointer (some ⟨ks, 0, none⟩), x8, x9, x10, x11, x12, x13, x14, x15, x16, x17, x18, x19, x20, x21, x22, x23, x24, x25, x26, x27, x28, x29, x30, x31, x32, x33, x34, x35, x36, x37, x38, x39, x40, x41, x42, x43, x44, x45, x46, x47, x48, x49, x50, x51, x52, x53, x54, x55, x56, x57, x58, x59, x60, x61, x62, x63, x64, x65, x66, x67, x68, x69, x70, x71, x72, x73, x74, x75, x76, x77, x78, x79, x80, x81, x82, x83, x84, x85, x86, x87, x88, x89, x90], []⟩ w := by
  conv => arg 2; whnf
  refine wp_region_any (by kernel_rfl) ?_
  try (change wpAny _ _ _ _ _ _ _ (World.drew _))
  have HT0 := Lib.hid HT.out.drew_
  have HB0 := Lib.hid HB.out.drew_
  obtain ⟨W0, hW⟩ : ∃ W, w.drew = W := ⟨_, rfl⟩
  rw [hW] at HT0 HB0 ⊢
  clear hW
  obtain ⟨b0, b1, b2, b3, b4⟩ := st_cellsy HB0.out
  refine take_k (i := 0) (v := ?_) rfl (by kernel_rfl) (by kernel_rfl) (by kernel_rfl) Leaves.panic (Or.inl ⟨by rfl, ?_⟩) (fun K hK => ?_)
  rotate_left 1
  · (intro w; go_simp; try with_reducible rfl)
  go_simp
  refine hK _ _ ?_
  clear hK K
  refine take_k (i := 1) (v := ?_) rfl (by kernel_rfl) (by kernel_rfl) (by kernel_rfl) Leaves.panic (Or.inl ⟨by rfl, ?_⟩) (fun K hK => ?_)
  rotate_left 1
  · (intro w; go_simp; try with_reducible rfl)
  go_simp
  refine hK _ _ ?_
  clear hK K
  refine take_k (i := 4) (v := ?_) rfl (by kernel_rfl) (by kernel_rfl) (by kernel_rfl) Leaves.panic (Or.inl ⟨by rfl, ?_⟩) (fun K hK => ?_)
  rotate_left 1
  · (intro w; go_simp; try with_reducible rfl)
  go_simp
  refine hK _ _ ?_
  clear hK K
  refine take_k (i := 5) (v := ?_) rfl (by kernel_rfl) (by kernel_rfl) (by kernel_rfl) Leaves.panic (Or.inl ⟨by rfl, ?_⟩) (fun K hK => ?_)
  rotate_left 1
  · (intro w; go_simp; try with_reducible rfl)
  go_simp
  refine hK _ _ ?_
  clear hK K
  refine wpAny_ready (rs := [2, 6]) (by kernel_rfl) (by simp) ?_
  refine AllReady.cons rfl (fun K hK => ?_) ?_
  · go_simp
    refine hK _ _ ?_
    clear hK K
    refine wpAny_ready (rs := [3, 6]) (by kernel_rfl) (by simp) ?_
    refine AllReady.cons rfl (fun K hK => ?_) ?_
    · go_simp
      refine (add_yes g l s last v sq bt dx dy t _ HT0.out.own.mv HL2.out hrt HNW.out).mono ?_
      rintro e w1 ⟨rfl, v1, h1, o1, f1⟩
      have HT1 := Lib.hid (HT0.out.prog f1 h1 o1)
      have HB1 := Lib.hid (HB0.out.frm f1 HA.out.ng (fun e => HA.out.nv e.symm))
      clear HB0 b0 b1 b2 b3 b4
      have HB0 := HB1
      clear HB1
      obtain ⟨b0, b1, b2, b3, b4⟩ := st_cellsy HB0.out
      clear h1 o1 f1
      clear HT0
      have HT0 := HT1
      clear HT1
      try go_simp
      refine hK _ _ ?_
      clear hK K
      refine wpAny_ready (rs := [6]) (by kernel_rfl) (by simp) ?_
      refine AllReady.cons rfl (fun K hK => ?_) ?_
      · go_simp
        refine hK _ _ ?_
        clear hK K
        refine wpAny_ready (rs := [7]) (by kernel_rfl) (by simp) ?_
        refine AllReady.cons rfl (fun K hK => ?_) ?_
        · go_simp
          refine (refadd_yes gw l all _ _ s last sq bt dx dy t hq HS.out HL2.out HLA.out HTI.out _ HT0.out.rm hrt HNW.out).mono ?_
          rintro e w1 ⟨rfl, ⟨AL2, AA2, h2, n2, m2⟩, hg2⟩
          have HT1 := Lib.hid (HT0.out.refp hg2 h2 (fun ad e => .inr ⟨n2 ad e, row_lt17 h2.rl (by simp) e⟩) (fun ad e => .inr ⟨m2 ad e, row_lt17 h2.ra (by simp) e⟩))
          have HB1 := Lib.hid (HB0.out.grown hg2 (fun e => HA.out.nw (by injection e)))
          clear HB0 b0 b1 b2 b3 b4
          have HB0 := HB1
          clear HB1
          obtain ⟨b0, b1, b2, b3, b4⟩ := st_cellsy HB0.out
          clear h2 n2 m2 hg2
          clear HT0
          have HT0 := HT1
          clear HT1
          try go_simp
          refine hK _ _ ?_
          clear hK K
          refine take_k (i := 8) (v := ?_) rfl (by kernel_rfl) (by kernel_rfl) (by kernel_rfl) Leaves.panic (Or.inl ⟨by rfl, ?_⟩) (fun K hK => ?_)
          rotate_left 1
          · (intro w; go_simp; try with_reducible rfl)
          go_simp
          refine hK _ _ ?_
          clear hK K
          refine wpAny_done (by kernel_rfl) ?_ _
          refine ⟨rfl, ?_, Lib.hid ⟨_, _, _, HT0.out⟩⟩
          simp only [puts]
          go_simp
        exact AllReady.nil
      exact AllReady.nil
    refine AllReady.cons rfl (fun K hK => ?_) ?_
    · go_simp
      refine hK _ _ ?_
      clear hK K
      refine wpAny_ready (rs := [3]) (by kernel_rfl) (by simp) ?_
      refine AllReady.cons rfl (fun K hK => ?_) ?_
      · go_simp
        refine (add_yes g l s last v sq bt dx dy t _ HT0.out.own.mv HL2.out hrt HNW.out).mono ?_
        rintro e w1 ⟨rfl, v1, h1, o1, f1⟩
        have HT1 := Lib.hid (HT0.out.prog f1 h1 o1)
        have HB1 := Lib.hid (HB0.out.frm f1 HA.out.ng (fun e => HA.out.nv e.symm))
        clear HB0 b0 b1 b2 b3 b4
        have HB0 := HB1
        clear HB1
        obtain ⟨b0, b1, b2, b3, b4⟩ := st_cellsy HB0.out
        clear h1 o1 f1
        clear HT0
        have HT0 := HT1
        clear HT1
        try go_simp
        refine hK _ _ ?_
        clear hK K
        refine wpAny_ready (rs := [7]) (by kernel_rfl) (by simp) ?_
        refine AllReady.cons rfl (fun K hK => ?_) ?_
        · go_simp
          refine (refadd_yes gw l all _ _ s last sq bt dx dy t hq HS.out HL2.out HLA.out HTI.out _ HT0.out.rm hrt HNW.out).mono ?_
          rintro e w1 ⟨rfl, ⟨AL2, AA2, h2, n2, m2⟩, hg2⟩
          have HT1 := Lib.hid (HT0.out.refp hg2 h2 (fun ad e => .inr ⟨n2 ad e, row_lt17 h2.rl (by simp) e⟩) (fun ad e => .inr ⟨m2 ad e, row_lt17 h2.ra (by simp) e⟩))
          have HB1 := Lib.hid (HB0.out.grown hg2 (fun e => HA.out.nw (by injection e)))
          clear HB0 b0 b1 b2 b3 b4
          have HB0 := HB1
          clear HB1
          obtain ⟨b0, b1, b2, b3, b4⟩ := st_cellsy HB0.out
          clear h2 n2 m2 hg2
          clear HT0
          have HT0 := HT1
          clear HT1
          try go_simp
          refine hK _ _ ?_
          clear hK K
          refine take_k (i := 8) (v := ?_) rfl (by kernel_rfl) (by kernel_rfl) (by kernel_rfl) Leaves.panic (Or.inl ⟨by rfl, ?_⟩) (fun K hK => ?_)
          rotate_left 1
          · (intro w; go_simp; try with_reducible rfl)
          go_simp
          refine hK _ _ ?_
          clear hK K
          refine wpAny_done (by kernel_rfl) ?_ _
          refine ⟨rfl, ?_, Lib.hid ⟨_, _, _, HT0.out⟩⟩
          simp only [puts]
          go_simp
        exact AllReady.nil
      exact AllReady.nil
    exact AllReady.nil
  refine AllReady.cons rfl (fun K hK => ?_) ?_
  · go_simp
    refine hK _ _ ?_
    clear hK K
    refine wpAny_ready (rs := [2]) (by kernel_rfl) (by simp) ?_
    refine AllReady.cons rfl (fun K hK => ?_) ?_
    · go_simp
      refine hK _ _ ?_
      clear hK K
      refine wpAny_ready (rs := [3]) (by kernel_rfl) (by simp) ?_
      refine AllReady.cons rfl (fun K hK => ?_) ?_
      · go_simp
        refine (add_yes g l s last v sq bt dx dy t _ HT0.out.own.mv HL2.out hrt HNW.out).mono ?_
        rintro e w1 ⟨rfl, v1, h1, o1, f1⟩
        have HT1 := Lib.hid (HT0.out.prog f1 h1 o1)
        have HB1 := Lib.hid (HB0.out.frm f1 HA.out.ng (fun e => HA.out.nv e.symm))
        clear HB0 b0 b1 b2 b3 b4
        have HB0 := HB1
        clear HB1
        obtain ⟨b0, b1, b2, b3, b4⟩ := st_cellsy HB0.out
        clear h1 o1 f1
        clear HT0
        have HT0 := HT1
        clear HT1
        try go_simp
        refine hK _ _ ?_
        clear hK K
        refine wpAny_ready (rs := [7]) (by kernel_rfl) (by simp) ?_
        refine AllReady.cons rfl (fun K hK => ?_) ?_
        · go_simp
          refine (refadd_yes gw l all _ _ s last sq bt dx dy t hq HS.out HL2.out HLA.out HTI.out _ HT0.out.rm hrt HNW.out).mono ?_
          rintro e w1 ⟨rfl, ⟨AL2, AA2, h2, n2, m2⟩, hg2⟩
          have HT1 := Lib.hid (HT0.out.refp hg2 h2 (fun ad e => .inr ⟨n2 ad e, row_lt17 h2.rl (by simp) e⟩) (fun ad e => .inr ⟨m2 ad e, row_lt17 h2.ra (by simp) e⟩))
          have HB1 := Lib.hid (HB0.out.grown hg2 (fun e => HA.out.nw (by injection e)))
          clear HB0 b0 b1 b2 b3 b4
          have HB0 := HB1
          clear HB1
          obtain ⟨b0, b1, b2, b3, b4⟩ := st_cellsy HB0.out
          clear h2 n2 m2 hg2
          clear HT0
          have HT0 := HT1
          clear HT1
          try go_simp
          refine hK _ _ ?_
          clear hK K
          refine take_k (i := 8) (v := ?_) rfl (by kernel_rfl) (by kernel_rfl) (by kernel_rfl) Leaves.panic (Or.inl ⟨by rfl, ?_⟩) (fun K hK => ?_)
          rotate_left 1
          · (intro w; go_simp; try with_reducible rfl)
          go_simp
          refine hK _ _ ?_
          clear hK K
          refine wpAny_done (by kernel_rfl) ?_ _
          refine ⟨rfl, ?_, Lib.hid ⟨_, _, _, HT0.out⟩⟩
          simp only [puts]
          go_simp
        exact AllReady.nil
      exact AllReady.nil
    exact AllReady.nil
  exact AllReady.nil
end Go.Proofs.Ytehlehfljgphkaa
