import Derived.Test.YtehlehfljgphkaaPl
namespace Go.Proofs.Ytehlehfljgphkaa
open Go.RowKit

/-- Region 24 of function 3. -/
noncomputable def p24C : Code := (Try.f3.body.bind (regOf 24)).getD .skip
set_option maxRecDepth 100000 in
set_option maxHeartbeats 8000000 in
theorem p24 {x0 x1 x2 x3 x5 x6 x7 x8 x10 x11 x12 x13 x14 x15 x16 x17 x18 x19 x20 x21 x22 x23 x24 x25 x26 x27 x28 x29 x30 x31 x32 x33 x34 x35 x36 x37 x38 x39 x40 x41 x42 x43 x44 x45 x46 x47 x48 x49 x50 x51 x52 x53 x54 x55 x56 x57 x58 x59 x60 x61 x62 x63 x64 x65 x66 x67 x68 x69 x70 x71 x72 x73 x74 x75 x76 x77 x78 x79 x80 x81 x82 x83 x84 x85 x86 x87 x88 x89 x90 : Value} {w0 w : World} {g gw kp : Nat} {px py ph ps : Int} {l lr all : List Cmd} {s : Bool} {last : Int} {v : Value} {AL AA : Option Addr}
    (HT : Hid (Two17 w0 w g gw l lr all s last v AL AA)) (HK : Hid (Blk w kp 45 (plA px py ph ps))) (HL : Hid (l.length ≤ 64)) (HP : Hid (l.foldl (stepP 3) ⟨0, 0, 0, 0⟩ = ⟨px, py, ph, ps⟩)) :
    Code.wp Try.prog p24C (Leaves (puts ⟨#[x0, x1, x2, x3, .pointer (some ⟨g, 0, none⟩), x5, x6, x7, x8, .pointer (some ⟨kp, 0, none⟩), x10, x11, x12, x13, x14, x15, x16, x17, x18, x19, x20, x21, x22, x23, x24, x25, x26, x27, x28, x29, x30, x31, x32, x33, x34, x35, x36, x37, x38, x39, x40, x41, x42, x43, x44, x45, x46, x47, x48, x49, x50, x51, x52, x53, x54, x55, x56, x57, x58, x59, x60, x61, x62, x63, x64, x65, x66, x67, x68, x69, x70, x71, x72, x73, x74, x75, x76, x77, x78, x79, x80, x81, x82, x83, x84, x85, x86, x87, x88, x89, x90], []⟩ [(84, .pointer (some ⟨g, 0, none⟩)), (85, mapV 3), (86, .agg (plA 0 0 0 0)), (87, .agg (plA px py ph ps)), (88, .agg (plA px py ph ps)), (89, .bool false)]) (fun w' => Hid (w.grownBy w' none))) ⟨#[x0, x1, x2, x3, .pointer (some ⟨g, 0, none⟩), x5, x6, x7, x8, .pointer (some ⟨kp, 0, none⟩), x10, x11, x12, x13, x14, x15, x16, x17, x18, x19, x20, x21, x22, x23, x24, x25, x26, x27, x28, x29, x30, x31, x32, x33, x34, x35, x36, x37, x38, x39, x40, x41, x42, x43, x44, x45, x46, x47, x48, x49, x50, x51, x52, x53, x54, x55, x56, x57, x58, x59, x60, x61, x62, x63, x64, x65, x66, x67, x68, x69, x70, x71, x72, x73, x74, x75, x76, x77, x78, x79, x80, x81, x82, x83, x84, x85, x86, x87, x88, x89, x90], []⟩ w := by
  conv => arg 2; whnf
  have hneq := fun W => neq45 W px py ph ps
  obtain ⟨d0, d1, d2, d3, d4, d5, d6, d7, d8, d9, d10, d11, d12, d13, d14⟩ := pl_cells HK.out
  refine wp_region_any (by kernel_rfl) ?_
  try (change wpAny _ _ _ _ _ _ _ (World.drew _))
  refine take_k (i := 0) (v := ?_) rfl (by kernel_rfl) (by kernel_rfl) (by kernel_rfl) Leaves.panic (Or.inl ⟨by rfl, ?_⟩) (fun K hK => ?_)
  rotate_left 1
  · (intro w; go_simp; try with_reducible rfl)
  go_simp
  refine hK _ _ ?_
  clear hK K
  refine take_k (i := 1) (v := ?_) rfl (by kernel_rfl) (by kernel_rfl) (by kernel_rfl) Leaves.panic (Or.inl ⟨by rfl, ?_⟩) (fun K hK => ?_)
  rotate_left 1
  · (intro w; go_simp; try with_reducible rfl)
  go_simp
  refine hK _ _ ?_
  clear hK K
  refine take_k (i := 2) (v := ?_) rfl (by kernel_rfl) (by kernel_rfl) (by kernel_rfl) Leaves.panic (Or.inl ⟨by rfl, ?_⟩) (fun K hK => ?_)
  rotate_left 1
  · (intro w; go_simp; try with_reducible rfl)
  go_simp
  refine hK _ _ ?_
  clear hK K
  refine wpAny_ready (rs := [3, 4]) (by kernel_rfl) (by simp) ?_
  refine AllReady.cons rfl (fun K hK => ?_) ?_
  · go_simp
    refine (replay18_calls 3 (stepP 3) (step_does 3) g l s last v 0 0 0 0 (by have := HL.out; omega) _ (HT.out.own.mv.drew_)).mono ?_
    rintro e w7 ⟨rfl, h7⟩
    rw [HP.out]
    have hK7 := HK.out.grown (undrawn h7) (by simp)
    obtain ⟨f0, f1, f2, f3, f4, f5, f6, f7, f8, f9, f10, f11, f12, f13, f14⟩ := pl_cells hK7
    have HG7 := Lib.hid (undrawn h7)
    clear h7 hK7
    try go_simp
    refine hK _ _ ?_
    clear hK K
    refine wpAny_ready (rs := [4]) (by kernel_rfl) (by simp) ?_
    refine AllReady.cons rfl (fun K hK => ?_) ?_
    · go_simp
      refine hK _ _ ?_
      clear hK K
      refine take_k (i := 5) (v := ?_) rfl (by kernel_rfl) (by kernel_rfl) (by kernel_rfl) Leaves.panic (Or.inl ⟨by rfl, ?_⟩) (fun K hK => ?_)
      rotate_left 1
      · (intro w; go_simp; try with_reducible rfl)
      go_simp
      refine hK _ _ ?_
      clear hK K
      refine wpAny_done (by kernel_rfl) ?_ _
      refine ⟨rfl, ?_, HG7⟩
      simp only [puts]
      go_simp
    exact AllReady.nil
  refine AllReady.cons rfl (fun K hK => ?_) ?_
  · go_simp
    refine hK _ _ ?_
    clear hK K
    refine wpAny_ready (rs := [3]) (by kernel_rfl) (by simp) ?_
    refine AllReady.cons rfl (fun K hK => ?_) ?_
    · go_simp
      refine (replay18_calls 3 (stepP 3) (step_does 3) g l s last v 0 0 0 0 (by have := HL.out; omega) _ (HT.out.own.mv.drew_)).mono ?_
      rintro e w7 ⟨rfl, h7⟩
      rw [HP.out]
      have hK7 := HK.out.grown (undrawn h7) (by simp)
      obtain ⟨f0, f1, f2, f3, f4, f5, f6, f7, f8, f9, f10, f11, f12, f13, f14⟩ := pl_cells hK7
      have HG7 := Lib.hid (undrawn h7)
      clear h7 hK7
      try go_simp
      refine hK _ _ ?_
      clear hK K
      refine take_k (i := 5) (v := ?_) rfl (by kernel_rfl) (by kernel_rfl) (by kernel_rfl) Leaves.panic (Or.inl ⟨by rfl, ?_⟩) (fun K hK => ?_)
      rotate_left 1
      · (intro w; go_simp; try with_reducible rfl)
      go_simp
      refine hK _ _ ?_
      clear hK K
      refine wpAny_done (by kernel_rfl) ?_ _
      refine ⟨rfl, ?_, HG7⟩
      simp only [puts]
      go_simp
    exact AllReady.nil
  exact AllReady.nil
end Go.Proofs.Ytehlehfljgphkaa
