import Derived.Test.YtehlehfljgphkaaLeftN
namespace Go.Proofs.Ytehlehfljgphkaa
open Go.RowKit

/-- Region 18 of function 6. -/
noncomputable def r18C : Code := (Try.f6.body.bind (regOf 18)).getD .skip
set_option maxRecDepth 100000 in
set_option maxHeartbeats 8000000 in
theorem r18 {x0 x1 x2 x3 x4 x5 x6 x7 x11 x12 x14 x15 x16 x17 x18 x19 x20 x21 x22 x23 x24 x25 x26 x27 x28 x29 x30 x31 x32 x33 x34 x35 x36 x37 x38 x39 x40 x41 x42 x43 x44 x45 x46 x47 x48 x49 x50 x51 x52 x53 x54 x55 x56 x57 x58 x59 x60 x61 x62 x63 x64 x65 x66 x67 x68 x69 x70 x71 x72 x73 x74 x75 x76 x77 x78 x79 x80 x81 x82 x83 x84 x85 x86 x87 x88 x89 x90 x91 x92 x93 x94 x95 x96 x97 x98 x99 x100 x101 x102 x103 x104 x105 x106 x107 x108 x109 x110 x111 x112 x113 x114 x115 x116 x117 x118 x119 x120 x121 x122 : Value} {w0 w : World} {cnt g ga q6 : Nat} {A6 : Option Addr} {px py ph ps : Int} {lst : List Cmd} {s : Bool} {last : Int} {v : Value}
    (HO6 : Hid (Own w0 w g lst s last v)) (HB6 : Hid (Besides w ga g v 45 (plA px py ph ps))) (HLEN : Hid (lst.length = cnt)) (hcnt : cnt ≤ 60)
    (HP : Hid (lst.foldl (stepP 0) ⟨0, 0, 0, 0⟩ = ⟨px, py, ph, ps⟩)) :
    Code.wp Try.prog r18C (Leaves (puts ⟨#[x0, x1, x2, x3, x4, x5, x6, x7, .pointer (some ⟨g, 0, none⟩), .pointer (some ⟨ga, 0, none⟩), .int .i64 (cnt : Nat), x11, x12, .slice A6 cnt q6, x14, x15, x16, x17, x18, x19, x20, x21, x22, x23, x24, x25, x26, x27, x28, x29, x30, x31, x32, x33, x34, x35, x36, x37, x38, x39, x40, x41, x42, x43, x44, x45, x46, x47, x48, x49, x50, x51, x52, x53, x54, x55, x56, x57, x58, x59, x60, x61, x62, x63, x64, x65, x66, x67, x68, x69, x70, x71, x72, x73, x74, x75, x76, x77, x78, x79, x80, x81, x82, x83, x84, x85, x86, x87, x88, x89, x90, x91, x92, x93, x94, x95, x96, x97, x98, x99, x100, x101, x102, x103, x104, x105, x106, x107, x108, x109, x110, x111, x112, x113, x114, x115, x116, x117, x118, x119, x120, x121, x122], []⟩ [(56, .slice A6 cnt q6), (57, .int .i64 (cnt : Nat)), (58, .int .i64 (cnt : Nat)), (59, .bool false), (60, .bool false), (61, .pointer (some ⟨g, 0, none⟩)), (62, mapV 0), (63, .agg (plA 0 0 0 0)), (64, .agg (plA px py ph ps)), (65, .agg (plA px py ph ps)), (66, .bool false), (67, .bool false)]) (fun w' => Hid (w.grownBy w' none))) ⟨#[x0, x1, x2, x3, x4, x5, x6, x7, .pointer (some ⟨g, 0, none⟩), .pointer (some ⟨ga, 0, none⟩), .int .i64 (cnt : Nat), x11, x12, .slice A6 cnt q6, x14, x15, x16, x17, x18, x19, x20, x21, x22, x23, x24, x25, x26, x27, x28, x29, x30, x31, x32, x33, x34, x35, x36, x37, x38, x39, x40, x41, x42, x43, x44, x45, x46, x47, x48, x49, x50, x51, x52, x53, x54, x55, x56, x57, x58, x59, x60, x61, x62, x63, x64, x65, x66, x67, x68, x69, x70, x71, x72, x73, x74, x75, x76, x77, x78, x79, x80, x81, x82, x83, x84, x85, x86, x87, x88, x89, x90, x91, x92, x93, x94, x95, x96, x97, x98, x99, x100, x101, x102, x103, x104, x105, x106, x107, x108, x109, x110, x111, x112, x113, x114, x115, x116, x117, x118, x119, x120, x121, x122], []⟩ w := by
  conv => arg 2; whnf
  have hneq := fun W => neq45 W px py ph ps
  obtain ⟨d0, d1, d2, d3, d4, d5, d6, d7, d8, d9, d10, d11, d12, d13, d14⟩ := pl_cells HB6.out.1
  refine wp_region_any (by kernel_rfl) ?_
  try (change wpAny _ _ _ _ _ _ _ (World.drew _))
  refine take_k (i := 0) (v := ?_) rfl (by kernel_rfl) (by kernel_rfl) (by kernel_rfl) Leaves.panic (Or.inl ⟨by rfl, ?_⟩) (fun K hK => ?_)
  rotate_left 1
  · (intro w; go_simp; try with_reducible rfl)
  go_simp
  refine hK _ _ ?_
  clear hK K
  refine take_k (i := 1) (v := ?_) rfl (by kernel_rfl) (by kernel_rfl) (by kernel_rfl) Leaves.panic (Or.inl ⟨by rfl, ?_⟩) (fun K hK => ?_)
  rotate_left 1
  · (intro w; go_simp; try with_reducible rfl)
  go_simp
  refine hK _ _ ?_
  clear hK K
  refine take_k (i := 2) (v := ?_) rfl (by kernel_rfl) (by kernel_rfl) (by kernel_rfl) Leaves.panic (Or.inl ⟨by rfl, ?_⟩) (fun K hK => ?_)
  rotate_left 1
  · (intro w; go_simp; try with_reducible rfl)
  go_simp
  refine hK _ _ ?_
  clear hK K
  refine take_k (i := 3) (v := ?_) rfl (by kernel_rfl) (by kernel_rfl) (by kernel_rfl) Leaves.panic (Or.inl ⟨by rfl, ?_⟩) (fun K hK => ?_)
  rotate_left 1
  · (intro w; go_simp; try with_reducible rfl)
  go_simp
  refine hK _ _ ?_
  clear hK K
  refine take_k (i := 4) (v := ?_) rfl (by kernel_rfl) (by kernel_rfl) (by kernel_rfl) Leaves.panic (Or.inl ⟨by rfl, ?_⟩) (fun K hK => ?_)
  rotate_left 1
  · (intro w; go_simp; try with_reducible rfl)
  go_simp
  refine hK _ _ ?_
  clear hK K
  refine take_k (i := 5) (v := ?_) rfl (by kernel_rfl) (by kernel_rfl) (by kernel_rfl) Leaves.panic (Or.inl ⟨by rfl, ?_⟩) (fun K hK => ?_)
  rotate_left 1
  · (intro w; go_simp; try with_reducible rfl)
  go_simp
  refine hK _ _ ?_
  clear hK K
  refine take_k (i := 6) (v := ?_) rfl (by kernel_rfl) (by kernel_rfl) (by kernel_rfl) Leaves.panic (Or.inl ⟨by rfl, ?_⟩) (fun K hK => ?_)
  rotate_left 1
  · (intro w; go_simp; try with_reducible rfl)
  go_simp
  refine hK _ _ ?_
  clear hK K
  refine take_k (i := 7) (v := ?_) rfl (by kernel_rfl) (by kernel_rfl) (by kernel_rfl) Leaves.panic (Or.inl ⟨by rfl, ?_⟩) (fun K hK => ?_)
  rotate_left 1
  · (intro w; go_simp; try with_reducible rfl)
  go_simp
  refine hK _ _ ?_
  clear hK K
  refine wpAny_ready (rs := [8, 9]) (by kernel_rfl) (by simp) ?_
  refine AllReady.cons rfl (fun K hK => ?_) ?_
  · go_simp
    refine (replay18_calls 0 (stepP 0) (step_does 0) g lst s last v 0 0 0 0 (by rw [HLEN.out]; omega) _ (HO6.out.mv.drew_)).mono ?_
    rintro e w7 ⟨rfl, h7⟩
    rw [HP.out]
    have hB7 := HB6.out.grown (undrawn h7)
    obtain ⟨f0, f1, f2, f3, f4, f5, f6, f7, f8, f9, f10, f11, f12, f13, f14⟩ := pl_cells hB7.1
    have HG7 := Lib.hid (undrawn h7)
    clear h7 hB7
    try go_simp
    refine hK _ _ ?_
    clear hK K
    refine wpAny_ready (rs := [9]) (by kernel_rfl) (by simp) ?_
    refine AllReady.cons rfl (fun K hK => ?_) ?_
    · go_simp
      refine hK _ _ ?_
      clear hK K
      refine take_k (i := 10) (v := ?_) rfl (by kernel_rfl) (by kernel_rfl) (by kernel_rfl) Leaves.panic (Or.inl ⟨by rfl, ?_⟩) (fun K hK => ?_)
      rotate_left 1
      · (intro w; go_simp; try with_reducible rfl)
      go_simp
      refine hK _ _ ?_
      clear hK K
      refine take_k (i := 11) (v := ?_) rfl (by kernel_rfl) (by kernel_rfl) (by kernel_rfl) Leaves.panic (Or.inl ⟨by rfl, ?_⟩) (fun K hK => ?_)
      rotate_left 1
      · (intro w; go_simp; try with_reducible rfl)
      go_simp
      refine hK _ _ ?_
      clear hK K
      refine wpAny_done (by kernel_rfl) ?_ _
      refine ⟨rfl, ?_, HG7⟩
      simp only [puts]
      go_simp
    exact AllReady.nil
  refine AllReady.cons rfl (fun K hK => ?_) ?_
  · go_simp
    refine hK _ _ ?_
    clear hK K
    refine wpAny_ready (rs := [8]) (by kernel_rfl) (by simp) ?_
    refine AllReady.cons rfl (fun K hK => ?_) ?_
    · go_simp
      refine (replay18_calls 0 (stepP 0) (step_does 0) g lst s last v 0 0 0 0 (by rw [HLEN.out]; omega) _ (HO6.out.mv.drew_)).mono ?_
      rintro e w7 ⟨rfl, h7⟩
      rw [HP.out]
      have hB7 := HB6.out.grown (undrawn h7)
      obtain ⟨f0, f1, f2, f3, f4, f5, f6, f7, f8, f9, f10, f11, f12, f13, f14⟩ := pl_cells hB7.1
      have HG7 := Lib.hid (undrawn h7)
      clear h7 hB7
      try go_simp
      refine hK _ _ ?_
      clear hK K
      refine take_k (i := 10) (v := ?_) rfl (by kernel_rfl) (by kernel_rfl) (by kernel_rfl) Leaves.panic (Or.inl ⟨by rfl, ?_⟩) (fun K hK => ?_)
      rotate_left 1
      · (intro w; go_simp; try with_reducible rfl)
      go_simp
      refine hK _ _ ?_
      clear hK K
      refine take_k (i := 11) (v := ?_) rfl (by kernel_rfl) (by kernel_rfl) (by kernel_rfl) Leaves.panic (Or.inl ⟨by rfl, ?_⟩) (fun K hK => ?_)
      rotate_left 1
      · (intro w; go_simp; try with_reducible rfl)
      go_simp
      refine hK _ _ ?_
      clear hK K
      refine wpAny_done (by kernel_rfl) ?_ _
      refine ⟨rfl, ?_, HG7⟩
      simp only [puts]
      go_simp
    exact AllReady.nil
  exact AllReady.nil
end Go.Proofs.Ytehlehfljgphkaa
