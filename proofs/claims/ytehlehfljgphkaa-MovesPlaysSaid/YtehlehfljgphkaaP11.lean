import Derived.Test.YtehlehfljgphkaaPl
namespace Go.Proofs.Ytehlehfljgphkaa
open Go.RowKit

/-- Region 11 of function 3. -/
noncomputable def p11C : Code := (Try.f3.body.bind (regOf 11)).getD .skip
set_option maxRecDepth 100000 in
set_option maxHeartbeats 8000000 in
theorem p11 {x0 x1 x2 x3 x6 x8 x9 x10 x11 x12 x13 x14 x15 x16 x17 x18 x19 x20 x21 x22 x23 x24 x25 x26 x27 x28 x29 x30 x31 x32 x33 x34 x35 x36 x37 x38 x39 x40 x41 x42 x43 x44 x45 x46 x47 x48 x49 x50 x51 x52 x53 x54 x55 x56 x57 x58 x59 x60 x61 x62 x63 x64 x65 x66 x67 x68 x69 x70 x71 x72 x73 x74 x75 x76 x77 x78 x79 x80 x81 x82 x83 x84 x85 x86 x87 x88 x89 x90 : Value} {w0 w : World} {g gw ks : Nat} {q : Int} {l all : List Cmd} {s : Bool} {last : Int} {v : Value} {AL AA : Option Addr}
    (HT : Hid (Two17 w0 w g gw l l all s last v AL AA)) (HC : Hid (w.cell? ⟨ks, 1, none⟩ = some (.int .u16 q))) (HA : Hid (Apt w0 g gw v AL AA ks)) (hq : 0 ≤ q ∧ q < 65536) (HS : Hid (∀ c ∈ l, 0 ≤ c.seq ∧ c.seq < 65536)) (HL : Hid (l.length ≤ 64)) :
    Code.wp Try.prog p11C (Leaves (puts ⟨#[x0, x1, x2, x3, .pointer (some ⟨g, 0, none⟩), .pointer (some ⟨gw, 0, none⟩), x6, .pointer (some ⟨ks, 0, none⟩), x8, x9, x10, x11, x12, x13, x14, x15, x16, x17, x18, x19, x20, x21, x22, x23, x24, x25, x26, x27, x28, x29, x30, x31, x32, x33, x34, x35, x36, x37, x38, x39, x40, x41, x42, x43, x44, x45, x46, x47, x48, x49, x50, x51, x52, x53, x54, x55, x56, x57, x58, x59, x60, x61, x62, x63, x64, x65, x66, x67, x68, x69, x70, x71, x72, x73, x74, x75, x76, x77, x78, x79, x80, x81, x82, x83, x84, x85, x86, x87, x88, x89, x90], []⟩ [(33, .pointer (some ⟨g, 0, none⟩)), (34, .pointer (some ⟨ks, 1, none⟩)), (35, .int .u16 q), (36, .int .i64 (ackN q l : Nat)), (37, .pointer (some ⟨gw, 0, none⟩)), (38, .pointer (some ⟨ks, 1, none⟩)), (39, .int .u16 q), (40, .int .i64 (ackN q l : Nat)), (41, .bool false)]) (fun w' => Hid (∃ v' AL', Two17 w0 w' g gw (l.drop (ackN q l)) (l.drop (ackN q l)) all s last v' AL' AA))) ⟨#[x0, x1, x2, x3, .pointer (some ⟨g, 0, none⟩), .pointer (some ⟨gw, 0, none⟩), x6, .pointer (some ⟨ks, 0, none⟩), x8, x9, x10, x11, x12, x13, x14, x15, x16, x17, x18, x19, x20, x21, x22, x23, x24, x25, x26, x27, x28, x29, x30, x31, x32, x33, x34, x35, x36, x37, x38, x39, x40, x41, x42, x43, x44, x45, x46, x47, x48, x49, x50, x51, x52, x53, x54, x55, x56, x57, x58, x59, x60, x61, x62, x63, x64, x65, x66, x67, x68, x69, x70, x71, x72, x73, x74, x75, x76, x77, x78, x79, x80, x81, x82, x83, x84, x85, x86, x87, x88, x89, x90], []⟩ w := by
  conv => arg 2; whnf
  refine wp_region_any (by kernel_rfl) ?_
  try (change wpAny _ _ _ _ _ _ _ (World.drew _))
  have HT0 := Lib.hid HT.out.drew_
  have c1 : w.drew.cell? ⟨ks, 1, none⟩ = some (.int .u16 q) := HC.out
  obtain ⟨W0, hW⟩ : ∃ W, w.drew = W := ⟨_, rfl⟩
  rw [hW] at HT0 c1 ⊢
  clear hW
  refine take_k (i := 0) (v := ?_) rfl (by kernel_rfl) (by kernel_rfl) (by kernel_rfl) Leaves.panic (Or.inl ⟨by rfl, ?_⟩) (fun K hK => ?_)
  rotate_left 1
  · (intro w; go_simp; try with_reducible rfl)
  go_simp
  refine hK _ _ ?_
  clear hK K
  refine take_k (i := 1) (v := ?_) rfl (by kernel_rfl) (by kernel_rfl) (by kernel_rfl) Leaves.panic (Or.inl ⟨by rfl, ?_⟩) (fun K hK => ?_)
  rotate_left 1
  · (intro w; go_simp; try with_reducible rfl)
  go_simp
  refine hK _ _ ?_
  clear hK K
  refine take_k (i := 4) (v := ?_) rfl (by kernel_rfl) (by kernel_rfl) (by kernel_rfl) Leaves.panic (Or.inl ⟨by rfl, ?_⟩) (fun K hK => ?_)
  rotate_left 1
  · (intro w; go_simp; try with_reducible rfl)
  go_simp
  refine hK _ _ ?_
  clear hK K
  refine take_k (i := 5) (v := ?_) rfl (by kernel_rfl) (by kernel_rfl) (by kernel_rfl) Leaves.panic (Or.inl ⟨by rfl, ?_⟩) (fun K hK => ?_)
  rotate_left 1
  · (intro w; go_simp; try with_reducible rfl)
  go_simp
  refine hK _ _ ?_
  clear hK K
  refine wpAny_ready (rs := [2, 6]) (by kernel_rfl) (by simp) ?_
  refine AllReady.cons rfl (fun K hK => ?_) ?_
  · go_simp
    refine hK _ _ ?_
    clear hK K
    refine wpAny_ready (rs := [3, 6]) (by kernel_rfl) (by simp) ?_
    refine AllReady.cons rfl (fun K hK => ?_) ?_
    · go_simp
      refine (acked_calls g l s last q v (by have := HL.out; omega) _ HT0.out.own.mv).mono ?_
      rintro e w1 ⟨rfl, v1, h1, o1, f1⟩
      have HT1 := Lib.hid (HT0.out.prog f1 h1 (.inl o1))
      have c1' := (World.cell?_of_block (a := ⟨ks, 1, none⟩) (f1.block ks (World.block_lt_of_cell? _ _ c1) HA.out.ng (fun e => HA.out.nv e.symm))).trans c1
      clear c1 h1 o1 f1
      have c1 := c1'
      clear c1'
      clear HT0
      have HT0 := HT1
      clear HT1
      try go_simp
      refine hK _ _ ?_
      clear hK K
      refine wpAny_ready (rs := [6]) (by kernel_rfl) (by simp) ?_
      refine AllReady.cons rfl (fun K hK => ?_) ?_
      · go_simp
        refine hK _ _ ?_
        clear hK K
        refine wpAny_ready (rs := [7]) (by kernel_rfl) (by simp) ?_
        refine AllReady.cons rfl (fun K hK => ?_) ?_
        · go_simp
          refine (refacked_calls gw l all _ AA q hq HS.out (by have := HL.out; omega) _ HT0.out.rm).mono ?_
          rintro e w2 ⟨rfl, ⟨AL2, h2, n2⟩, hg2⟩
          have HT1 := Lib.hid (HT0.out.refp hg2 h2 (fun ad' e => .inl (n2 ad' e)) (Newer17.same _ _ _))
          have c1' := hg2.cell c1 (fun e => HA.out.nw (by injection e))
          clear c1 h2 n2 hg2
          have c1 := c1'
          clear c1'
          clear HT0
          have HT0 := HT1
          clear HT1
          try go_simp
          refine hK _ _ ?_
          clear hK K
          refine take_k (i := 8) (v := ?_) rfl (by kernel_rfl) (by kernel_rfl) (by kernel_rfl) Leaves.panic (Or.inl ⟨by rfl, ?_⟩) (fun K hK => ?_)
          rotate_left 1
          · (intro w; go_simp; try with_reducible rfl)
          go_simp
          refine hK _ _ ?_
          clear hK K
          refine wpAny_done (by kernel_rfl) ?_ _
          refine ⟨rfl, ?_, Lib.hid ⟨_, _, HT0.out⟩⟩
          simp only [puts]
          go_simp
        exact AllReady.nil
      exact AllReady.nil
    refine AllReady.cons rfl (fun K hK => ?_) ?_
    · go_simp
      refine hK _ _ ?_
      clear hK K
      refine wpAny_ready (rs := [3]) (by kernel_rfl) (by simp) ?_
      refine AllReady.cons rfl (fun K hK => ?_) ?_
      · go_simp
        refine (acked_calls g l s last q v (by have := HL.out; omega) _ HT0.out.own.mv).mono ?_
        rintro e w1 ⟨rfl, v1, h1, o1, f1⟩
        have HT1 := Lib.hid (HT0.out.prog f1 h1 (.inl o1))
        have c1' := (World.cell?_of_block (a := ⟨ks, 1, none⟩) (f1.block ks (World.block_lt_of_cell? _ _ c1) HA.out.ng (fun e => HA.out.nv e.symm))).trans c1
        clear c1 h1 o1 f1
        have c1 := c1'
        clear c1'
        clear HT0
        have HT0 := HT1
        clear HT1
        try go_simp
        refine hK _ _ ?_
        clear hK K
        refine wpAny_ready (rs := [7]) (by kernel_rfl) (by simp) ?_
        refine AllReady.cons rfl (fun K hK => ?_) ?_
        · go_simp
          refine (refacked_calls gw l all _ AA q hq HS.out (by have := HL.out; omega) _ HT0.out.rm).mono ?_
          rintro e w2 ⟨rfl, ⟨AL2, h2, n2⟩, hg2⟩
          have HT1 := Lib.hid (HT0.out.refp hg2 h2 (fun ad' e => .inl (n2 ad' e)) (Newer17.same _ _ _))
          have c1' := hg2.cell c1 (fun e => HA.out.nw (by injection e))
          clear c1 h2 n2 hg2
          have c1 := c1'
          clear c1'
          clear HT0
          have HT0 := HT1
          clear HT1
          try go_simp
          refine hK _ _ ?_
          clear hK K
          refine take_k (i := 8) (v := ?_) rfl (by kernel_rfl) (by kernel_rfl) (by kernel_rfl) Leaves.panic (Or.inl ⟨by rfl, ?_⟩) (fun K hK => ?_)
          rotate_left 1
          · (intro w; go_simp; try with_reducible rfl)
          go_simp
          refine hK _ _ ?_
          clear hK K
          refine wpAny_done (by kernel_rfl) ?_ _
          refine ⟨rfl, ?_, Lib.hid ⟨_, _, HT0.out⟩⟩
          simp only [puts]
          go_simp
        exact AllReady.nil
      exact AllReady.nil
    exact AllReady.nil
  refine AllReady.cons rfl (fun K hK => ?_) ?_
  · go_simp
    refine hK _ _ ?_
    clear hK K
    refine wpAny_ready (rs := [2]) (by kernel_rfl) (by simp) ?_
    refine AllReady.cons rfl (fun K hK => ?_) ?_
    · go_simp
      refine hK _ _ ?_
      clear hK K
      refine wpAny_ready (rs := [3]) (by kernel_rfl) (by simp) ?_
      refine AllReady.cons rfl (fun K hK => ?_) ?_
      · go_simp
        refine (acked_calls g l s last q v (by have := HL.out; omega) _ HT0.out.own.mv).mono ?_
        rintro e w1 ⟨rfl, v1, h1, o1, f1⟩
        have HT1 := Lib.hid (HT0.out.prog f1 h1 (.inl o1))
        have c1' := (World.cell?_of_block (a := ⟨ks, 1, none⟩) (f1.block ks (World.block_lt_of_cell? _ _ c1) HA.out.ng (fun e => HA.out.nv e.symm))).trans c1
        clear c1 h1 o1 f1
        have c1 := c1'
        clear c1'
        clear HT0
        have HT0 := HT1
        clear HT1
        try go_simp
        refine hK _ _ ?_
        clear hK K
        refine wpAny_ready (rs := [7]) (by kernel_rfl) (by simp) ?_
        refine AllReady.cons rfl (fun K hK => ?_) ?_
        · go_simp
          refine (refacked_calls gw l all _ AA q hq HS.out (by have := HL.out; omega) _ HT0.out.rm).mono ?_
          rintro e w2 ⟨rfl, ⟨AL2, h2, n2⟩, hg2⟩
          have HT1 := Lib.hid (HT0.out.refp hg2 h2 (fun ad' e => .inl (n2 ad' e)) (Newer17.same _ _ _))
          have c1' := hg2.cell c1 (fun e => HA.out.nw (by injection e))
          clear c1 h2 n2 hg2
          have c1 := c1'
          clear c1'
          clear HT0
          have HT0 := HT1
          clear HT1
          try go_simp
          refine hK _ _ ?_
          clear hK K
          refine take_k (i := 8) (v := ?_) rfl (by kernel_rfl) (by kernel_rfl) (by kernel_rfl) Leaves.panic (Or.inl ⟨by rfl, ?_⟩) (fun K hK => ?_)
          rotate_left 1
          · (intro w; go_simp; try with_reducible rfl)
          go_simp
          refine hK _ _ ?_
          clear hK K
          refine wpAny_done (by kernel_rfl) ?_ _
          refine ⟨rfl, ?_, Lib.hid ⟨_, _, HT0.out⟩⟩
          simp only [puts]
          go_simp
        exact AllReady.nil
      exact AllReady.nil
    exact AllReady.nil
  exact AllReady.nil
end Go.Proofs.Ytehlehfljgphkaa
