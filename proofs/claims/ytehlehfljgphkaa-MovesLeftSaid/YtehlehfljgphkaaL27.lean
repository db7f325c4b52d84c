import Derived.Test.YtehlehfljgphkaaLeftN
namespace Go.Proofs.Ytehlehfljgphkaa
open Go.RowKit

/-- Region 27: the last line. -/
noncomputable def r27C : Code := (Try.f6.body.bind (regOf 27)).getD .skip
set_option maxRecDepth 100000 in
set_option maxHeartbeats 8000000 in
theorem r27 {x1 x3 x4 x5 x6 x11 x12 x13 x15 x17 x18 x19 x20 x21 x22 x23 x24 x25 x26 x27 x28 x29 x30 x31 x32 x33 x34 x35 x36 x37 x38 x39 x40 x41 x42 x43 x44 x45 x46 x47 x48 x49 x50 x51 x52 x53 x54 x55 x56 x57 x58 x59 x60 x61 x62 x63 x64 x65 x66 x67 x68 x69 x70 x71 x72 x73 x74 x75 x76 x77 x78 x79 x80 x81 x82 x83 x84 x85 x86 x87 x88 x89 x90 x91 x92 x93 x94 x95 x96 x97 x98 x99 x100 x101 x102 x103 x104 x105 x106 x107 x108 x109 x110 x111 x112 x113 x114 x115 x116 x117 x118 x119 x120 x121 x122 : Value} {w0 w : World} {first : Int} {j cnt n5 g ga kt : Nat} {q0 px py ph ps ax ay ah as_ : Int} {lst : List Cmd} {s : Bool} {last : Int} {v : Value}
    (HO10 : Hid (Own w0 w g lst s last v)) (HB10 : Hid (Besides w ga g v 45 (plA px py ph ps))) (HT10 : Hid (Besides w kt g v 45 (plA ax ay ah as_))) (HL10 : Hid (lst.length = n5))
    (HFR : Hid (lst.foldl (stepP 0) ⟨ax, ay, ah, as_⟩ = ⟨px, py, ph, ps⟩)) (n60 : n5 ≤ 60) (HAK0 : Hid (ackN q0 lst = 0)) (eq2 : IntKind.u16.wrap (first - 1) = q0) (es1 : IntKind.i64.wrap ((cnt : Int) - j) = (n5 : Int)) (es2 : (cnt : Int) - j = (n5 : Int)) (Q : Exit → Act → World → Prop)
    (hq : ∀ (y93 y94 y95 y96 y97 y98 y99 y100 y101 y102 y103 y104 y105 y106 y107 y108 y109 y110 y111 y112 y113 y114 y115 y116 y117 y118 y119 y120 y121 y122 : Value) (w' : World), Hid (w0.grownBy w' none) → Q .normal ⟨#[.int .u16 first, x1, .int .i64 (j : Nat), x3, x4, x5, .bool true, .bool true, .pointer (some ⟨g, 0, none⟩), .pointer (some ⟨ga, 0, none⟩), .int .i64 (cnt : Nat), x11, x12, x13, .pointer (some ⟨kt, 0, none⟩), x15, .int .i64 (j : Nat), x17, x18, x19, x20, x21, x22, x23, x24, x25, x26, x27, x28, x29, x30, x31, x32, x33, x34, x35, x36, x37, x38, x39, x40, x41, x42, x43, x44, x45, x46, x47, x48, x49, x50, x51, x52, x53, x54, x55, x56, x57, x58, x59, x60, x61, x62, x63, x64, x65, x66, x67, x68, x69, x70, x71, x72, x73, x74, x75, x76, x77, x78, x79, x80, x81, x82, x83, x84, x85, x86, x87, x88, x89, x90, x91, x92, y93, y94, y95, y96, y97, y98, y99, y100, y101, y102, y103, y104, y105, y106, y107, y108, y109, y110, y111, y112, y113, y114, y115, y116, y117, y118, y119, y120, y121, y122], []⟩ w') (hp : ∀ c a b w, Q (.panic c) a w → Q (.panic c) b w) :
    Code.wp Try.prog r27C Q ⟨#[.int .u16 first, x1, .int .i64 (j : Nat), x3, x4, x5, x6, .bool true, .pointer (some ⟨g, 0, none⟩), .pointer (some ⟨ga, 0, none⟩), .int .i64 (cnt : Nat), x11, x12, x13, .pointer (some ⟨kt, 0, none⟩), x15, .int .i64 (j : Nat), x17, x18, x19, x20, x21, x22, x23, x24, x25, x26, x27, x28, x29, x30, x31, x32, x33, x34, x35, x36, x37, x38, x39, x40, x41, x42, x43, x44, x45, x46, x47, x48, x49, x50, x51, x52, x53, x54, x55, x56, x57, x58, x59, x60, x61, x62, x63, x64, x65, x66, x67, x68, x69, x70, x71, x72, x73, x74, x75, x76, x77, x78, x79, x80, x81, x82, x83, x84, x85, x86, x87, x88, x89, x90, x91, x92, x93, x94, x95, x96, x97, x98, x99, x100, x101, x102, x103, x104, x105, x106, x107, x108, x109, x110, x111, x112, x113, x114, x115, x116, x117, x118, x119, x120, x121, x122], []⟩ w := by
  conv => arg 2; whnf
  have es3 : IntKind.i64.wrap (n5 : Int) = (n5 : Int) := IntWalk.i64_in _ (by omega)
  have heq := fun W => eql45 W px py ph ps
  refine wp_region_any (by kernel_rfl) ?_
  try (change wpAny _ _ _ _ _ _ _ (World.drew _))
  refine take_k (i := 0) (v := ?_) rfl (by kernel_rfl) (by kernel_rfl) (by kernel_rfl) (fun c a w h => hp c _ _ w h) (Or.inl ⟨by rfl, ?_⟩) (fun K hK => ?_)
  rotate_left 1
  · (intro w; go_simp; try with_reducible rfl)
  go_simp
  refine hK _ _ ?_
  clear hK K
  refine take_k (i := 1) (v := ?_) rfl (by kernel_rfl) (by kernel_rfl) (by kernel_rfl) (fun c a w h => hp c _ _ w h) (Or.inl ⟨by rfl, ?_⟩) (fun K hK => ?_)
  rotate_left 1
  · (intro w; go_simp; try with_reducible rfl)
  go_simp
  refine hK _ _ ?_
  clear hK K
  refine take_k (i := 2) (v := ?_) rfl (by kernel_rfl) (by kernel_rfl) (by kernel_rfl) (fun c a w h => hp c _ _ w h) (Or.inl ⟨by rfl, ?_⟩) (fun K hK => ?_)
  rotate_left 1
  · (intro w; go_simp; try with_reducible rfl)
  go_simp
  refine hK _ _ ?_
  clear hK K
  refine take_k (i := 3) (v := ?_) rfl (by kernel_rfl) (by kernel_rfl) (by kernel_rfl) (fun c a w h => hp c _ _ w h) (Or.inl ⟨by rfl, ?_⟩) (fun K hK => ?_)
  rotate_left 1
  · (intro w; go_simp; try with_reducible rfl)
  go_simp
  refine hK _ _ ?_
  clear hK K
  refine take_k (i := 4) (v := ?_) rfl (by kernel_rfl) (by kernel_rfl) (by kernel_rfl) (fun c a w h => hp c _ _ w h) (Or.inl ⟨by rfl, ?_⟩) (fun K hK => ?_)
  rotate_left 1
  · (intro w; go_simp; try with_reducible rfl)
  go_simp
  refine hK _ _ ?_
  clear hK K
  refine take_k (i := 5) (v := ?_) rfl (by kernel_rfl) (by kernel_rfl) (by kernel_rfl) (fun c a w h => hp c _ _ w h) (Or.inl ⟨by rfl, ?_⟩) (fun K hK => ?_)
  rotate_left 1
  · (intro w; go_simp; try with_reducible rfl)
  go_simp
  refine hK _ _ ?_
  clear hK K
  refine take_k (i := 6) (v := ?_) rfl (by kernel_rfl) (by kernel_rfl) (by kernel_rfl) (fun c a w h => hp c _ _ w h) (Or.inl ⟨by rfl, ?_⟩) (fun K hK => ?_)
  rotate_left 1
  · (intro w; go_simp; try with_reducible rfl)
  go_simp
  refine hK _ _ ?_
  clear hK K
  refine take_k (i := 7) (v := ?_) rfl (by kernel_rfl) (by kernel_rfl) (by kernel_rfl) (fun c a w h => hp c _ _ w h) (Or.inl ⟨by rfl, ?_⟩) (fun K hK => ?_)
  rotate_left 1
  · (intro w; go_simp; try with_reducible rfl)
  go_simp
  refine hK _ _ ?_
  clear hK K
  refine take_k (i := 10) (v := ?_) rfl (by kernel_rfl) (by kernel_rfl) (by kernel_rfl) (fun c a w h => hp c _ _ w h) (Or.inl ⟨by rfl, ?_⟩) (fun K hK => ?_)
  rotate_left 1
  · (intro w; go_simp; try with_reducible rfl)
  go_simp
  refine hK _ _ ?_
  clear hK K
  refine take_k (i := 11) (v := ?_) rfl (by kernel_rfl) (by kernel_rfl) (by kernel_rfl) (fun c a w h => hp c _ _ w h) (Or.inl ⟨by rfl, ?_⟩) (fun K hK => ?_)
  rotate_left 1
  · (intro w; go_simp; try with_reducible rfl)
  go_simp
  refine hK _ _ ?_
  clear hK K
  refine take_k (i := 12) (v := ?_) rfl (by kernel_rfl) (by kernel_rfl) (by kernel_rfl) (fun c a w h => hp c _ _ w h) (Or.inl ⟨by rfl, ?_⟩) (fun K hK => ?_)
  rotate_left 1
  · (intro w; go_simp; try with_reducible rfl)
  go_simp
  refine hK _ _ ?_
  clear hK K
  refine wpAny_ready (rs := [8]) (by kernel_rfl) (by simp) ?_
  refine AllReady.cons rfl (fun K hK => ?_) ?_
  · go_simp
    refine (saved_calls g lst s last v (by rw [HL10.out]; omega) _ (HO10.out.mv.drew_)).mono ?_
    rintro e w11 ⟨A11, q11, rfl, _, h11⟩
    rw [HL10.out]
    have HO11 := Lib.hid (HO10.out.grown_ (undrawn h11))
    have HB11 := Lib.hid (HB10.out.grown (undrawn h11))
    have HT11 := Lib.hid (HT10.out.grown (undrawn h11))
    obtain ⟨d0, d1, d2, d3, d4, d5, d6, d7, d8, d9, d10, d11, d12, d13, d14⟩ := pl_cells HB11.out.1
    obtain ⟨f0, f1, f2, f3, f4, f5, f6, f7, f8, f9, f10, f11, f12, f13, f14⟩ := pl_cells HT11.out.1
    clear h11
    try go_simp
    refine hK _ _ ?_
    clear hK K
    refine take_k (i := 9) (v := ?_) rfl (by kernel_rfl) (by kernel_rfl) (by kernel_rfl) (fun c a w h => hp c _ _ w h) (Or.inl ⟨by rfl, ?_⟩) (fun K hK => ?_)
    rotate_left 1
    · (intro w; go_simp; try with_reducible rfl)
    go_simp
    refine hK _ _ ?_
    clear hK K
    refine take_k (i := 13) (v := ?_) rfl (by kernel_rfl) (by kernel_rfl) (by kernel_rfl) (fun c a w h => hp c _ _ w h) (Or.inl ⟨by rfl, ?_⟩) (fun K hK => ?_)
    rotate_left 1
    · (intro w; go_simp; try with_reducible rfl)
    go_simp
    refine hK _ _ ?_
    clear hK K
    refine take_k (i := 14) (v := ?_) rfl (by kernel_rfl) (by kernel_rfl) (by kernel_rfl) (fun c a w h => hp c _ _ w h) (Or.inl ⟨by rfl, ?_⟩) (fun K hK => ?_)
    rotate_left 1
    · (intro w; go_simp; try with_reducible rfl)
    go_simp
    refine hK _ _ ?_
    clear hK K
    refine take_k (i := 15) (v := ?_) rfl (by kernel_rfl) (by kernel_rfl) (by kernel_rfl) (fun c a w h => hp c _ _ w h) (Or.inl ⟨by rfl, ?_⟩) (fun K hK => ?_)
    rotate_left 1
    · (intro w; go_simp; try with_reducible rfl)
    go_simp
    refine hK _ _ ?_
    clear hK K
    refine take_k (i := 16) (v := ?_) rfl (by kernel_rfl) (by kernel_rfl) (by kernel_rfl) (fun c a w h => hp c _ _ w h) (Or.inl ⟨by rfl, ?_⟩) (fun K hK => ?_)
    rotate_left 1
    · (intro w; go_simp; try with_reducible rfl)
    go_simp
    refine hK _ _ ?_
    clear hK K
    refine take_k (i := 17) (v := ?_) rfl (by kernel_rfl) (by kernel_rfl) (by kernel_rfl) (fun c a w h => hp c _ _ w h) (Or.inl ⟨by rfl, ?_⟩) (fun K hK => ?_)
    rotate_left 1
    · (intro w; go_simp; try with_reducible rfl)
    go_simp
    refine hK _ _ ?_
    clear hK K
    refine wpAny_ready (rs := [18, 20]) (by kernel_rfl) (by simp) ?_
    refine AllReady.cons rfl (fun K hK => ?_) ?_
    · go_simp
      refine hK _ _ ?_
      clear hK K
      refine wpAny_ready (rs := [19, 20]) (by kernel_rfl) (by simp) ?_
      refine AllReady.cons rfl (fun K hK => ?_) ?_
      · go_simp
        clear d0 d1 d2 d3 d4 d5 d6 d7 d8 d9 d10 d11 d12 d13 d14
        refine (replay18_calls 0 (stepP 0) (step_does 0) g lst s last v ax ay ah as_ (by rw [HL10.out]; omega) _ HO11.out.mv).mono ?_
        rintro e w12 ⟨rfl, h12⟩
        rw [HFR.out]
        have HO12 := Lib.hid (HO11.out.grown_ h12)
        have hB12 := HB11.out.grown h12
        obtain ⟨d0, d1, d2, d3, d4, d5, d6, d7, d8, d9, d10, d11, d12, d13, d14⟩ := pl_cells hB12.1
        clear h12 hB12
        try go_simp
        refine hK _ _ ?_
        clear hK K
        refine wpAny_ready (rs := [20]) (by kernel_rfl) (by simp) ?_
        refine AllReady.cons rfl (fun K hK => ?_) ?_
        · go_simp
          refine hK _ _ ?_
          clear hK K
          refine take_k (i := 21) (v := ?_) rfl (by kernel_rfl) (by kernel_rfl) (by kernel_rfl) (fun c a w h => hp c _ _ w h) (Or.inl ⟨by rfl, ?_⟩) (fun K hK => ?_)
          rotate_left 1
          · (intro w; go_simp; try with_reducible rfl)
          go_simp
          refine hK _ _ ?_
          clear hK K
          refine take_k (i := 22) (v := ?_) rfl (by kernel_rfl) (by kernel_rfl) (by kernel_rfl) (fun c a w h => hp c _ _ w h) (Or.inl ⟨by rfl, ?_⟩) (fun K hK => ?_)
          rotate_left 1
          · (intro w; go_simp; try with_reducible rfl)
          go_simp
          refine hK _ _ ?_
          clear hK K
          refine take_k (i := 23) (v := ?_) rfl (by kernel_rfl) (by kernel_rfl) (by kernel_rfl) (fun c a w h => hp c _ _ w h) (Or.inl ⟨by rfl, ?_⟩) (fun K hK => ?_)
          rotate_left 1
          · (intro w; go_simp; try with_reducible rfl)
          go_simp
          refine hK _ _ ?_
          clear hK K
          refine take_k (i := 24) (v := ?_) rfl (by kernel_rfl) (by kernel_rfl) (by kernel_rfl) (fun c a w h => hp c _ _ w h) (Or.inl ⟨by rfl, ?_⟩) (fun K hK => ?_)
          rotate_left 1
          · (intro w; go_simp; try with_reducible rfl)
          go_simp
          refine hK _ _ ?_
          clear hK K
          refine take_k (i := 25) (v := ?_) rfl (by kernel_rfl) (by kernel_rfl) (by kernel_rfl) (fun c a w h => hp c _ _ w h) (Or.inl ⟨by rfl, ?_⟩) (fun K hK => ?_)
          rotate_left 1
          · (intro w; go_simp; try with_reducible rfl)
          go_simp
          refine hK _ _ ?_
          clear hK K
          refine take_k (i := 26) (v := ?_) rfl (by kernel_rfl) (by kernel_rfl) (by kernel_rfl) (fun c a w h => hp c _ _ w h) (Or.inl ⟨by rfl, ?_⟩) (fun K hK => ?_)
          rotate_left 1
          · (intro w; go_simp; try with_reducible rfl)
          go_simp
          refine hK _ _ ?_
          clear hK K
          refine wpAny_ready (rs := [27]) (by kernel_rfl) (by simp) ?_
          refine AllReady.cons rfl (fun K hK => ?_) ?_
          · go_simp
            refine (acked_calls g lst s last q0 v (by rw [HL10.out]; omega) _ HO12.out.mv).mono ?_
            rintro e w13 ⟨rfl, v13, h13, o13, f13⟩
            rw [HAK0.out]
            have HG13 := Lib.hid (HO12.out.frm f13 h13).grown
            clear h13 o13 f13
            try go_simp
            refine hK _ _ ?_
            clear hK K
            refine take_k (i := 28) (v := ?_) rfl (by kernel_rfl) (by kernel_rfl) (by kernel_rfl) (fun c a w h => hp c _ _ w h) (Or.inl ⟨by rfl, ?_⟩) (fun K hK => ?_)
            rotate_left 1
            · (intro w; go_simp; try with_reducible rfl)
            go_simp
            refine hK _ _ ?_
            clear hK K
            refine take_k (i := 29) (v := ?_) rfl (by kernel_rfl) (by kernel_rfl) (by kernel_rfl) (fun c a w h => hp c _ _ w h) (Or.inl ⟨by rfl, ?_⟩) (fun K hK => ?_)
            rotate_left 1
            · (intro w; go_simp; try with_reducible rfl)
            go_simp
            refine hK _ _ ?_
            clear hK K
            refine take_k (i := 30) (v := ?_) rfl (by kernel_rfl) (by kernel_rfl) (by kernel_rfl) (fun c a w h => hp c _ _ w h) (Or.inl ⟨by rfl, ?_⟩) (fun K hK => ?_)
            rotate_left 1
            · (intro w; go_simp; try with_reducible rfl)
            go_simp
            refine hK _ _ ?_
            clear hK K
            refine wpAny_done (by kernel_rfl) ?_ _
            refine hq _ _ _ _ _ _ _ _ _ _ _ _ _ _ _ _ _ _ _ _ _ _ _ _ _ _ _ _ _ _ _ HG13
          exact AllReady.nil
        exact AllReady.nil
      refine AllReady.cons rfl (fun K hK => ?_) ?_
      · go_simp
        refine hK _ _ ?_
        clear hK K
        refine wpAny_ready (rs := [19]) (by kernel_rfl) (by simp) ?_
        refine AllReady.cons rfl (fun K hK => ?_) ?_
        · go_simp
          clear d0 d1 d2 d3 d4 d5 d6 d7 d8 d9 d10 d11 d12 d13 d14
          refine (replay18_calls 0 (stepP 0) (step_does 0) g lst s last v ax ay ah as_ (by rw [HL10.out]; omega) _ HO11.out.mv).mono ?_
          rintro e w12 ⟨rfl, h12⟩
          rw [HFR.out]
          have HO12 := Lib.hid (HO11.out.grown_ h12)
          have hB12 := HB11.out.grown h12
          obtain ⟨d0, d1, d2, d3, d4, d5, d6, d7, d8, d9, d10, d11, d12, d13, d14⟩ := pl_cells hB12.1
          clear h12 hB12
          try go_simp
          refine hK _ _ ?_
          clear hK K
          refine take_k (i := 21) (v := ?_) rfl (by kernel_rfl) (by kernel_rfl) (by kernel_rfl) (fun c a w h => hp c _ _ w h) (Or.inl ⟨by rfl, ?_⟩) (fun K hK => ?_)
          rotate_left 1
          · (intro w; go_simp; try with_reducible rfl)
          go_simp
          refine hK _ _ ?_
          clear hK K
          refine take_k (i := 22) (v := ?_) rfl (by kernel_rfl) (by kernel_rfl) (by kernel_rfl) (fun c a w h => hp c _ _ w h) (Or.inl ⟨by rfl, ?_⟩) (fun K hK => ?_)
          rotate_left 1
          · (intro w; go_simp; try with_reducible rfl)
          go_simp
          refine hK _ _ ?_
          clear hK K
          refine take_k (i := 23) (v := ?_) rfl (by kernel_rfl) (by kernel_rfl) (by kernel_rfl) (fun c a w h => hp c _ _ w h) (Or.inl ⟨by rfl, ?_⟩) (fun K hK => ?_)
          rotate_left 1
          · (intro w; go_simp; try with_reducible rfl)
          go_simp
          refine hK _ _ ?_
          clear hK K
          refine take_k (i := 24) (v := ?_) rfl (by kernel_rfl) (by kernel_rfl) (by kernel_rfl) (fun c a w h => hp c _ _ w h) (Or.inl ⟨by rfl, ?_⟩) (fun K hK => ?_)
          rotate_left 1
          · (intro w; go_simp; try with_reducible rfl)
          go_simp
          refine hK _ _ ?_
          clear hK K
          refine take_k (i := 25) (v := ?_) rfl (by kernel_rfl) (by kernel_rfl) (by kernel_rfl) (fun c a w h => hp c _ _ w h) (Or.inl ⟨by rfl, ?_⟩) (fun K hK => ?_)
          rotate_left 1
          · (intro w; go_simp; try with_reducible rfl)
          go_simp
          refine hK _ _ ?_
          clear hK K
          refine take_k (i := 26) (v := ?_) rfl (by kernel_rfl) (by kernel_rfl) (by kernel_rfl) (fun c a w h => hp c _ _ w h) (Or.inl ⟨by rfl, ?_⟩) (fun K hK => ?_)
          rotate_left 1
          · (intro w; go_simp; try with_reducible rfl)
          go_simp
          refine hK _ _ ?_
          clear hK K
          refine wpAny_ready (rs := [27]) (by kernel_rfl) (by simp) ?_
          refine AllReady.cons rfl (fun K hK => ?_) ?_
          · go_simp
            refine (acked_calls g lst s last q0 v (by rw [HL10.out]; omega) _ HO12.out.mv).mono ?_
            rintro e w13 ⟨rfl, v13, h13, o13, f13⟩
            rw [HAK0.out]
            have HG13 := Lib.hid (HO12.out.frm f13 h13).grown
            clear h13 o13 f13
            try go_simp
            refine hK _ _ ?_
            clear hK K
            refine take_k (i := 28) (v := ?_) rfl (by kernel_rfl) (by kernel_rfl) (by kernel_rfl) (fun c a w h => hp c _ _ w h) (Or.inl ⟨by rfl, ?_⟩) (fun K hK => ?_)
            rotate_left 1
            · (intro w; go_simp; try with_reducible rfl)
            go_simp
            refine hK _ _ ?_
            clear hK K
            refine take_k (i := 29) (v := ?_) rfl (by kernel_rfl) (by kernel_rfl) (by kernel_rfl) (fun c a w h => hp c _ _ w h) (Or.inl ⟨by rfl, ?_⟩) (fun K hK => ?_)
            rotate_left 1
            · (intro w; go_simp; try with_reducible rfl)
            go_simp
            refine hK _ _ ?_
            clear hK K
            refine take_k (i := 30) (v := ?_) rfl (by kernel_rfl) (by kernel_rfl) (by kernel_rfl) (fun c a w h => hp c _ _ w h) (Or.inl ⟨by rfl, ?_⟩) (fun K hK => ?_)
            rotate_left 1
            · (intro w; go_simp; try with_reducible rfl)
            go_simp
            refine hK _ _ ?_
            clear hK K
            refine wpAny_done (by kernel_rfl) ?_ _
            refine hq _ _ _ _ _ _ _ _ _ _ _ _ _ _ _ _ _ _ _ _ _ _ _ _ _ _ _ _ _ _ _ HG13
          exact AllReady.nil
        exact AllReady.nil
      exact AllReady.nil
    refine AllReady.cons rfl (fun K hK => ?_) ?_
    · go_simp
      refine hK _ _ ?_
      clear hK K
      refine wpAny_ready (rs := [18]) (by kernel_rfl) (by simp) ?_
      refine AllReady.cons rfl (fun K hK => ?_) ?_
      · go_simp
        refine hK _ _ ?_
        clear hK K
        refine wpAny_ready (rs := [19]) (by kernel_rfl) (by simp) ?_
        refine AllReady.cons rfl (fun K hK => ?_) ?_
        · go_simp
          clear d0 d1 d2 d3 d4 d5 d6 d7 d8 d9 d10 d11 d12 d13 d14
          refine (replay18_calls 0 (stepP 0) (step_does 0) g lst s last v ax ay ah as_ (by rw [HL10.out]; omega) _ HO11.out.mv).mono ?_
          rintro e w12 ⟨rfl, h12⟩
          rw [HFR.out]
          have HO12 := Lib.hid (HO11.out.grown_ h12)
          have hB12 := HB11.out.grown h12
          obtain ⟨d0, d1, d2, d3, d4, d5, d6, d7, d8, d9, d10, d11, d12, d13, d14⟩ := pl_cells hB12.1
          clear h12 hB12
          try go_simp
          refine hK _ _ ?_
          clear hK K
          refine take_k (i := 21) (v := ?_) rfl (by kernel_rfl) (by kernel_rfl) (by kernel_rfl) (fun c a w h => hp c _ _ w h) (Or.inl ⟨by rfl, ?_⟩) (fun K hK => ?_)
          rotate_left 1
          · (intro w; go_simp; try with_reducible rfl)
          go_simp
          refine hK _ _ ?_
          clear hK K
          refine take_k (i := 22) (v := ?_) rfl (by kernel_rfl) (by kernel_rfl) (by kernel_rfl) (fun c a w h => hp c _ _ w h) (Or.inl ⟨by rfl, ?_⟩) (fun K hK => ?_)
          rotate_left 1
          · (intro w; go_simp; try with_reducible rfl)
          go_simp
          refine hK _ _ ?_
          clear hK K
          refine take_k (i := 23) (v := ?_) rfl (by kernel_rfl) (by kernel_rfl) (by kernel_rfl) (fun c a w h => hp c _ _ w h) (Or.inl ⟨by rfl, ?_⟩) (fun K hK => ?_)
          rotate_left 1
          · (intro w; go_simp; try with_reducible rfl)
          go_simp
          refine hK _ _ ?_
          clear hK K
          refine take_k (i := 24) (v := ?_) rfl (by kernel_rfl) (by kernel_rfl) (by kernel_rfl) (fun c a w h => hp c _ _ w h) (Or.inl ⟨by rfl, ?_⟩) (fun K hK => ?_)
          rotate_left 1
          · (intro w; go_simp; try with_reducible rfl)
          go_simp
          refine hK _ _ ?_
          clear hK K
          refine take_k (i := 25) (v := ?_) rfl (by kernel_rfl) (by kernel_rfl) (by kernel_rfl) (fun c a w h => hp c _ _ w h) (Or.inl ⟨by rfl, ?_⟩) (fun K hK => ?_)
          rotate_left 1
          · (intro w; go_simp; try with_reducible rfl)
          go_simp
          refine hK _ _ ?_
          clear hK K
          refine take_k (i := 26) (v := ?_) rfl (by kernel_rfl) (by kernel_rfl) (by kernel_rfl) (fun c a w h => hp c _ _ w h) (Or.inl ⟨by rfl, ?_⟩) (fun K hK => ?_)
          rotate_left 1
          · (intro w; go_simp; try with_reducible rfl)
          go_simp
          refine hK _ _ ?_
          clear hK K
          refine wpAny_ready (rs := [27]) (by kernel_rfl) (by simp) ?_
          refine AllReady.cons rfl (fun K hK => ?_) ?_
          · go_simp
            refine (acked_calls g lst s last q0 v (by rw [HL10.out]; omega) _ HO12.out.mv).mono ?_
            rintro e w13 ⟨rfl, v13, h13, o13, f13⟩
            rw [HAK0.out]
            have HG13 := Lib.hid (HO12.out.frm f13 h13).grown
            clear h13 o13 f13
            try go_simp
            refine hK _ _ ?_
            clear hK K
            refine take_k (i := 28) (v := ?_) rfl (by kernel_rfl) (by kernel_rfl) (by kernel_rfl) (fun c a w h => hp c _ _ w h) (Or.inl ⟨by rfl, ?_⟩) (fun K hK => ?_)
            rotate_left 1
            · (intro w; go_simp; try with_reducible rfl)
            go_simp
            refine hK _ _ ?_
            clear hK K
            refine take_k (i := 29) (v := ?_) rfl (by kernel_rfl) (by kernel_rfl) (by kernel_rfl) (fun c a w h => hp c _ _ w h) (Or.inl ⟨by rfl, ?_⟩) (fun K hK => ?_)
            rotate_left 1
            · (intro w; go_simp; try with_reducible rfl)
            go_simp
            refine hK _ _ ?_
            clear hK K
            refine take_k (i := 30) (v := ?_) rfl (by kernel_rfl) (by kernel_rfl) (by kernel_rfl) (fun c a w h => hp c _ _ w h) (Or.inl ⟨by rfl, ?_⟩) (fun K hK => ?_)
            rotate_left 1
            · (intro w; go_simp; try with_reducible rfl)
            go_simp
            refine hK _ _ ?_
            clear hK K
            refine wpAny_done (by kernel_rfl) ?_ _
            refine hq _ _ _ _ _ _ _ _ _ _ _ _ _ _ _ _ _ _ _ _ _ _ _ _ _ _ _ _ _ _ _ HG13
          exact AllReady.nil
        exact AllReady.nil
      exact AllReady.nil
    exact AllReady.nil
  exact AllReady.nil
end Go.Proofs.Ytehlehfljgphkaa
