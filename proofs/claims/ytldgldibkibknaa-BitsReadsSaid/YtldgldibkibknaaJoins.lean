import Derived.Test.YtldgldibkibknaaNum
import Derived.Deep.RegionWith
namespace Go.Proofs.Ytldgldibkibknaa
open Go.RowKit

theorem i64_and63 (n : Int) : bits .and .i64 n 63 = n % 64 := by
  have h127 : (BitVec.ofInt 64 63).toNat = 2 ^ 6 - 1 := by decide
  have key : (BitVec.ofInt 64 n &&& BitVec.ofInt 64 63).toNat = (n % ((2 ^ 64 : Nat) : Int)).toNat % 2 ^ 6 := by
    rw [BitVec.toNat_and, BitVec.toNat_ofInt, h127, Nat.and_two_pow_sub_one_eq_mod]
  show IntKind.i64.wrap ((BitVec.ofInt 64 n &&& BitVec.ofInt 64 63).toNat : Nat) = n % 64
  rw [key, IntKind.wrap_i64]
  omega
theorem i64_and7 (n : Int) : bits .and .i64 n 7 = n % 8 := by
  have h127 : (BitVec.ofInt 64 7).toNat = 2 ^ 3 - 1 := by decide
  have key : (BitVec.ofInt 64 n &&& BitVec.ofInt 64 7).toNat = (n % ((2 ^ 64 : Nat) : Int)).toNat % 2 ^ 3 := by
    rw [BitVec.toNat_and, BitVec.toNat_ofInt, h127, Nat.and_two_pow_sub_one_eq_mod]
  show IntKind.i64.wrap ((BitVec.ofInt 64 n &&& BitVec.ofInt 64 7).toNat : Nat) = n % 8
  rw [key, IntKind.wrap_i64]
  omega
theorem inn_nat (n : Nat) (h : n ≤ 64) : inn (n : Int) = n := by unfold inn; omega

/-- Two writers that lie apart. -/
structure Two (w : World) (ga gb : Nat) (ba bb : List Bool) (va vb : Value) : Prop where
  a : Wr w ga ba va
  b : Wr w gb bb vb
  ne : ga ≠ gb
  ab : ∀ k, va.ownBlock = some k → k ≠ gb ∧ vb.ownBlock ≠ some k
  ba_ : ∀ k, vb.ownBlock = some k → k ≠ ga
theorem Two.swap {w : World} {ga gb : Nat} {ba bb : List Bool} {va vb : Value} (h : Two w ga gb ba bb va vb) : Two w gb ga bb ba vb va :=
  ⟨h.b, h.a, fun e => h.ne e.symm, fun k e => ⟨h.ba_ k e, fun e2 => (h.ab k e2).2 e⟩, fun k e => (h.ab k e).1⟩
theorem Wr.frm {A B : World} {g g2 : Nat} {bs : List Bool} {v : Value} {r : Option Nat} (h : Wr A g bs v) (f : Frm A B g2 r) (hg : g ≠ g2) (hr : some g ≠ r) (hv : ∀ k, v.ownBlock = some k → k ≠ g2 ∧ some k ≠ r) : Wr B g bs v := by
  refine ⟨(f.block g h.blk.lt hg hr).trans h.blk, h.row.1, ?_⟩
  rcases h.row.2 with h2 | ⟨g', cap, cur, rfl, hb, hh, hx⟩
  · exact .inl h2
  · have hk := hv g' rfl
    exact .inr ⟨g', cap, cur, rfl, hb, (f.block g' (Array.getElem?_eq_some_iff.1 hh).1 hk.1 hk.2).trans hh, hx⟩
theorem Two.put {w w' : World} {ga gb : Nat} {ba bb ba' : List Bool} {va vb va' : Value} (h : Two w ga gb ba bb va vb) (h1 : Wr w' ga ba' va') (h2 : va'.ownBlock = va.ownBlock ∨ ∀ k, va'.ownBlock = some k → w.heap.size ≤ k) (f : Frm w w' ga va.ownBlock) :
    Two w' ga gb ba' bb va' vb := by
  have hb : Wr w' gb bb vb := h.b.frm f (fun e => h.ne e.symm) (fun e => (h.ab gb e.symm).1 rfl) (fun k e => ⟨h.ba_ k e, fun e2 => (h.ab k e2.symm).2 e⟩)
  refine ⟨h1, hb, h.ne, fun k e => ?_, h.ba_⟩
  rcases h2 with h2 | h2
  · exact h.ab k (h2 ▸ e)
  · have := h2 k e
    refine ⟨by have := h.b.blk.lt; omega, fun e2 => ?_⟩
    have := (h.b.row_lt k e2).1
    omega
theorem Two.grown {A B : World} {ga gb : Nat} {ba bb : List Bool} {va vb : Value} (h : Two A ga gb ba bb va vb) (hg : A.grownBy B none) : Two B ga gb ba bb va vb :=
  ⟨h.a.grown hg, h.b.grown hg, h.ne, h.ab, h.ba_⟩
theorem Two.new (w : World) : Two ((w.alloc (.cells #[.slice none 0 0, .int .i64 0] 33)).alloc (.cells #[.slice none 0 0, .int .i64 0] 33)) w.heap.size (w.heap.size + 1) [] [] (.slice none 0 0) (.slice none 0 0) :=
  ⟨(wr_new w).grown (World.grownBy_alloc _ _ _), by have := wr_new (w.alloc (.cells #[.slice none 0 0, .int .i64 0] 33)); rwa [World.size_alloc] at this, by omega, fun k e => (by cases e), fun k e => (by cases e)⟩
theorem put_int (g N : Nat) (n x : Int) (hn : n = (N : Int)) (hN : N < 18446744073709551616) (bs : List Bool) (hl : bs.length ≤ 1000000) (v0 : Value) (w : World) (hw : Wr w g bs v0) :
    Calls Try.prog 15 #[.pointer (some ⟨g, 0, none⟩), .int .u64 n, .int .i64 x] w fun e w' => e = .returned (.tuple #[]) ∧
      ∃ v, Wr w' g (bs ++ hb N (inn x)) v ∧ (v.ownBlock = v0.ownBlock ∨ ∀ k, v.ownBlock = some k → w.heap.size ≤ k) ∧ Frm w w' g v0.ownBlock := by
  subst hn; exact put_calls g N x hN bs hl v0 w hw
theorem below_grown {a b : World} (h : a.grownBy b none) : Below a.heap.size a b := ⟨h.os, h.tape, h.output, h.size, fun k hk => h.block k hk (by simp)⟩
theorem take_k {P : Program} {ops : Array Oper} {Q : Exit → Act → World → Prop} {md : Region.Mode} {i : Nat} {oi : Oper} {v : Value} {fuel : Nat} {listed : Array Bool} {a : Act} {w : World} (hi : ops[i]? = some oi)
    (hs : Region.noSelect ops = true) (hf : Region.free md ops listed i = true) (hr : (Region.ready md ops listed).contains i = true)
    (hQ : ∀ c a w, Q (.panic c) (a.put oi.dst v) w → Q (.panic c) a w) (hy : Yields P ops oi v a)
    (h : ∀ K : Act → World → Prop, (∀ a w, wpAny P md ops Q fuel (listed.setIfInBounds i true) a w → K a w) → K (a.put oi.dst v) w) : wpAny P md ops Q (fuel + 1) listed a w :=
  wpAny_take hi hs hf hr hQ hy (h _ fun _ _ h => h)
/-- What one of two puts leaves, for whoever made both. -/
theorem Two.fresh {w0 w w' : World} {ga gb : Nat} {ba bb : List Bool} {va vb : Value} (h : Two w ga gb ba bb va vb) (h0 : w0.grownBy w none) (hg : w0.heap.size ≤ ga) (f : Frm w w' ga va.ownBlock) : w0.grownBy w' none :=
  f.over h0 hg (fun j e => by have := (h.a.row_lt j e).2; omega)

set_option maxRecDepth 100000 in
set_option maxHeartbeats 4000000 in
/-- THE LAW: in how many pieces a number is put does not matter. -/
theorem joins (N : Nat) (cut ahead : Int) (w : World) (hN : N < 18446744073709551616) :
    Calls Try.prog 4 #[.int .u64 N, .int .i64 cut, .int .i64 ahead] w fun e w' => e = .returned (.bool true) ∧ Below w.heap.size w w' := by
  have HS := Lib.hid (shown_calls w)
  have ec : bits .and .i64 cut 63 = (((cut % 64).toNat : Nat) : Int) := by rw [i64_and63]; omega
  have ea : bits .and .i64 ahead 7 = (((ahead % 8).toNat : Nat) : Int) := by rw [i64_and7]; omega
  have hc : (cut % 64).toNat < 64 := by omega
  have ha : (ahead % 8).toNat < 8 := by omega
  obtain ⟨c, hcc⟩ : ∃ c, (cut % 64).toNat = c := ⟨_, rfl⟩
  obtain ⟨h, hhh⟩ : ∃ h, (ahead % 8).toNat = h := ⟨_, rfl⟩
  rw [hcc] at ec hc
  rw [hhh] at ea ha
  clear hcc hhh
  have e35 : IntKind.u64.wrap (c : Int) = (c : Int) := by rw [IntKind.wrap_u64]; omega
  have e64 : IntKind.i64.wrap (64 - (c : Int)) = ((64 - c : Nat) : Int) := by rw [IntWalk.i64_in _ (by omega)]; omega
  have f1 : IntKind.i64.wrap (64 + (h : Int)) = 64 + (h : Int) := IntWalk.i64_in _ (by omega)
  obtain ⟨p, hp⟩ : ∃ p, 64 + h + 7 = p := ⟨_, rfl⟩
  obtain ⟨n, hn⟩ : ∃ n, p / 8 = n := ⟨_, rfl⟩
  have f2 : IntKind.i64.wrap (64 + (h : Int) + 7) = (p : Int) := by rw [IntWalk.i64_in _ (by omega)]; omega
  have f3 : IntKind.i64.wrap ((p : Int) / 8) = (n : Int) := by rw [IntWalk.i64_in _ (by omega)]; omega
  have f4 : (p : Int) / 8 = (n : Int) := by omega
  have f5 : (p : Int).tdiv 8 = (n : Int) := by rw [Int.tdiv_eq_ediv_of_nonneg (by omega)]; exact f4
  have f6 : IntKind.i64.wrap (n : Int) = (n : Int) := IntWalk.i64_in _ (by omega)
  have HP := Lib.hid hp
  have HN := Lib.hid hn
  clear hp hn
  obtain ⟨d, hd⟩ : ∃ d, 64 - c = d := ⟨_, rfl⟩
  rw [hd] at e64
  have hsh : N / 2 ^ c < 18446744073709551616 := Nat.lt_of_le_of_lt (Nat.div_le_self _ _) hN
  obtain ⟨M, hM⟩ : ∃ M, N / 2 ^ c = M := ⟨_, rfl⟩
  have eM : (N : Int) / 2 ^ c = (M : Int) := by rw [← hM]; simp
  have eM2 : (N : Int) / 2 ^ min c 64 = (M : Int) := by rw [Nat.min_eq_left (by omega)]; exact eM
  rw [hM] at hsh
  have hsplit : hb N 64 = hb M d ++ hb N c := by rw [← hM, ← hd]; exact hb_split N 64 c (by omega)
  have HSP := Lib.hid hsplit
  have i1 : inn (h : Int) = h := inn_nat h (by omega)
  have i2 : inn (c : Int) = c := inn_nat c (by omega)
  have i3 : inn (d : Int) = d := inn_nat d (by omega)
  have I1 := Lib.hid i1
  have I2 := Lib.hid i2
  have I3 := Lib.hid i3
  have hd64 : d ≤ 64 := by omega
  have HD := Lib.hid hd
  clear hsplit i1 i2 i3 hM hd
  go_enter Try.func4, Try.ntmps4
  go_wp2_with (go_at_call 11; refine HS.out.mono ?_; rintro e w1 ⟨rfl, h1⟩; have G1 := Lib.hid h1; clear h1)
  have T1 := Two.new w1
  have G1' := only_trans G1.out (only_trans (World.grownBy_alloc w1 (.cells #[.slice none 0 0, .int .i64 0] 33) none) (World.grownBy_alloc _ (.cells #[.slice none 0 0, .int .i64 0] 33) none))
  obtain ⟨ga, hga⟩ : ∃ ga, w1.heap.size = ga := ⟨_, rfl⟩
  obtain ⟨gb, hgb⟩ : ∃ gb, ga + 1 = gb := ⟨_, rfl⟩
  obtain ⟨wB, hwB⟩ : ∃ wB, (w1.alloc (.cells #[.slice none 0 0, .int .i64 0] 33)).alloc (.cells #[.slice none 0 0, .int .i64 0] 33) = wB := ⟨_, rfl⟩
  rw [hwB] at T1 G1'
  rw [hga, hgb] at T1
  simp only [hwB, hga, hgb]
  have A1 : Hid (w.heap.size ≤ ga) := Lib.hid (by rw [← hga]; exact G1.out.size)
  have B1 : Hid (w.heap.size ≤ gb) := Lib.hid (by have := A1.out; omega)
  have I64 : Hid (inn 64 = 64) := Lib.hid rfl
  clear hwB hga hgb G1
  have G1 := Lib.hid G1'
  have T1 := Lib.hid T1
  clear G1'
  refine (put_int ga 1 1 h (by simp) (by decide) [] (by simp) _ _ T1.out.a).mono ?_
  rintro e w2 ⟨rfl, v2, p1, p2, p3⟩
  rw [I1.out] at p1
  have G2 := Lib.hid (T1.out.fresh G1.out A1.out p3)
  have T2 := Lib.hid (T1.out.put p1 p2 p3)
  clear p1 p2 p3
  go_wp2_with fail
  refine (put_int gb 1 1 h (by simp) (by decide) [] (by simp) _ _ T2.out.b).mono ?_
  rintro e w3 ⟨rfl, v3, p1, p2, p3⟩
  rw [I1.out] at p1
  have G3 := Lib.hid (T2.out.swap.fresh G2.out B1.out p3)
  have T3 := Lib.hid (T2.out.swap.put p1 p2 p3).swap
  clear p1 p2 p3
  go_wp2_with fail
  refine (put_int ga N N 64 (by simp) hN ([] ++ hb 1 h) (by simp [hb_len]; omega) _ _ T3.out.a).mono ?_
  rintro e w4 ⟨rfl, v4, p1, p2, p3⟩
  rw [I64.out] at p1
  have G4 := Lib.hid (T3.out.fresh G3.out A1.out p3)
  have T4 := Lib.hid (T3.out.put p1 p2 p3)
  clear p1 p2 p3
  go_wp2_with fail
  refine (put_int gb M M d (by simp) hsh ([] ++ hb 1 h) (by simp [hb_len]; omega) _ _ T4.out.b).mono ?_
  rintro e w5 ⟨rfl, v5, p1, p2, p3⟩
  rw [I3.out] at p1
  have G5 := Lib.hid (T4.out.swap.fresh G4.out B1.out p3)
  have T5 := Lib.hid (T4.out.swap.put p1 p2 p3).swap
  clear p1 p2 p3
  go_wp2_with fail
  refine (put_int gb N N c (by simp) hN ([] ++ hb 1 h ++ hb M d) (by simp [hb_len]; omega) _ _ T5.out.b).mono ?_
  rintro e w6 ⟨rfl, v6, p1, p2, p3⟩
  rw [I2.out] at p1
  have G6 := Lib.hid (T5.out.swap.fresh G5.out B1.out p3)
  have T6 := Lib.hid (T5.out.swap.put p1 p2 p3).swap
  clear p1 p2 p3
  go_wp2_with fail
  have hL : ([] ++ hb 1 h ++ hb M d ++ hb N c) = [] ++ hb 1 h ++ hb N 64 := by rw [HSP.out, List.append_assoc]
  rw [hL] at T6
  obtain ⟨L, hLL⟩ : ∃ L, [] ++ hb 1 h ++ hb N 64 = L := ⟨_, rfl⟩
  have hlen : L.length = h + 64 := by rw [← hLL]; simp [hb_len]
  have hnn : (L.length + 7) / 8 = n := by have := HP.out; have := HN.out; omega
  rw [hLL] at T6
  obtain ⟨S, hS⟩ : ∃ S, pk L n = S := ⟨_, rfl⟩
  have BA : Hid (∀ X, Hid (w6.grownBy X none) → Calls Try.prog 13 #[.pointer (some ⟨ga, 0, none⟩)] X fun e w' => ∃ A c, e = .returned (.slice A n c) ∧ Hid (Rd w' w'.heap.size A n (S.map bv)) ∧ X.grownBy w' none) := Lib.hid (fun X hX => by
    have := bytes_calls ga L (by omega) v4 X (T6.out.grown hX.out).a
    rw [hnn, hS] at this
    refine this.mono ?_
    rintro e w' ⟨A, c, he, h1, h2⟩
    exact ⟨A, c, he, Lib.hid (rd_of_own h1), h2⟩)
  have BB : Hid (∀ X, Hid (w6.grownBy X none) → Calls Try.prog 13 #[.pointer (some ⟨gb, 0, none⟩)] X fun e w' => ∃ A c, e = .returned (.slice A n c) ∧ Hid (Rd w' w'.heap.size A n (S.map bv)) ∧ X.grownBy w' none) := Lib.hid (fun X hX => by
    have := bytes_calls gb L (by omega) v6 X (T6.out.grown hX.out).b
    rw [hnn, hS] at this
    refine this.mono ?_
    rintro e w' ⟨A, c, he, h1, h2⟩
    exact ⟨A, c, he, Lib.hid (rd_of_own h1), h2⟩)
  have K0 : Hid (w6.grownBy w6.drew none) := Lib.hid (only_drawn (World.grownBy.refl w6 none) 1)
  have K1 : Hid (w6.grownBy w6 none) := Lib.hid (World.grownBy.refl w6 none)
  obtain ⟨Z, hZ'⟩ : ∃ Z, str S = Z := ⟨_, rfl⟩
  have hZ := Lib.hid hZ'
  clear hZ'
  clear hL hLL hlen hnn hS ha hc hd64 hsh hN e35 e64 eM eM2 ec ea HS
  refine wp_region_any (by kernel_rfl) ?_
  try (change wpAny _ _ _ _ _ _ _ (World.drew _))
  refine take_k (i := 0) (v := ?_) rfl (by kernel_rfl) (by kernel_rfl) (by kernel_rfl) (fun _ _ _ h => h) (Or.inl ⟨by rfl, ?_⟩) (fun K hK => ?_)
  rotate_left 1
  · (intro w; go_simp; try with_reducible rfl)
  go_simp
  refine hK _ _ ?_
  clear hK K
  refine take_k (i := 1) (v := ?_) rfl (by kernel_rfl) (by kernel_rfl) (by kernel_rfl) (fun _ _ _ h => h) (Or.inl ⟨by rfl, ?_⟩) (fun K hK => ?_)
  rotate_left 1
  · (intro w; go_simp; try with_reducible rfl)
  go_simp
  refine hK _ _ ?_
  clear hK K
  refine take_k (i := 2) (v := ?_) rfl (by kernel_rfl) (by kernel_rfl) (by kernel_rfl) (fun _ _ _ h => h) (Or.inl ⟨by rfl, ?_⟩) (fun K hK => ?_)
  rotate_left 1
  · (intro w; go_simp; try with_reducible rfl)
  go_simp
  refine hK _ _ ?_
  clear hK K
  refine take_k (i := 5) (v := ?_) rfl (by kernel_rfl) (by kernel_rfl) (by kernel_rfl) (fun _ _ _ h => h) (Or.inl ⟨by rfl, ?_⟩) (fun K hK => ?_)
  rotate_left 1
  · (intro w; go_simp; try with_reducible rfl)
  go_simp
  refine hK _ _ ?_
  clear hK K
  refine wpAny_ready (rs := [3]) (by kernel_rfl) (by simp) ?_
  refine AllReady.cons rfl (fun K hK => ?_) ?_
  · go_simp
    go_wp2_with (go_at_call 13; with_reducible refine (BA.out _ (by with_reducible assumption)).mono ?_; rintro e wX ⟨A, cX, rfl, hr, hg⟩; have hgg := World.grownBy.refl wX none; have KX : Hid (w6.grownBy wX none) := Lib.hid (only_trans (Hid.out (by with_reducible assumption)) hg); have ks : ∀ Y, wX.grownBy Y none → (Go.convert 27 9 (.slice A n cX)).run Try.prog Y = .ok (.string Z) Y := fun Y hY => hZ.out ▸ run_string_rd Y 27 5 9 Try.underlying27 Try.underlying5 Try.underlying9 cX (hr.out.keep fun p hp => World.cell?_of_block (hY.block _ hp (by simp))))
    try (refine hK _ _ ?_; clear hK K)
    refine wpAny_ready (rs := [4, 6]) (by kernel_rfl) (by simp) ?_
    refine AllReady.cons rfl (fun K hK => ?_) ?_
    · go_simp
      refine hK _ _ ?_
      clear hK K
      refine wpAny_ready (rs := [6]) (by kernel_rfl) (by simp) ?_
      refine AllReady.cons rfl (fun K hK => ?_) ?_
      · go_simp
        go_wp2_with (go_at_call 13; with_reducible refine (BB.out _ (by with_reducible assumption)).mono ?_; rintro e wX ⟨A, cX, rfl, hr, hg⟩; have hgg := World.grownBy.refl wX none; have KX : Hid (w6.grownBy wX none) := Lib.hid (only_trans (Hid.out (by with_reducible assumption)) hg); have ks : ∀ Y, wX.grownBy Y none → (Go.convert 27 9 (.slice A n cX)).run Try.prog Y = .ok (.string Z) Y := fun Y hY => hZ.out ▸ run_string_rd Y 27 5 9 Try.underlying27 Try.underlying5 Try.underlying9 cX (hr.out.keep fun p hp => World.cell?_of_block (hY.block _ hp (by simp))))
        try (refine hK _ _ ?_; clear hK K)
        refine wpAny_ready (rs := [7]) (by kernel_rfl) (by simp) ?_
        refine AllReady.cons rfl (fun K hK => ?_) ?_
        · go_simp
          refine hK _ _ ?_
          clear hK K
          refine take_k (i := 8) (v := ?_) rfl (by kernel_rfl) (by kernel_rfl) (by kernel_rfl) (fun _ _ _ h => h) (Or.inl ⟨by rfl, ?_⟩) (fun K hK => ?_)
          rotate_left 1
          · (intro w; go_simp; try with_reducible rfl)
          go_simp
          refine hK _ _ ?_
          clear hK K
          refine take_k (i := 9) (v := ?_) rfl (by kernel_rfl) (by kernel_rfl) (by kernel_rfl) (fun _ _ _ h => h) (Or.inl ⟨by rfl, ?_⟩) (fun K hK => ?_)
          rotate_left 1
          · (intro w; go_simp; try with_reducible rfl)
          go_simp
          refine hK _ _ ?_
          clear hK K
          refine take_k (i := 10) (v := ?_) rfl (by kernel_rfl) (by kernel_rfl) (by kernel_rfl) (fun _ _ _ h => h) (Or.inl ⟨by rfl, ?_⟩) (fun K hK => ?_)
          rotate_left 1
          · (intro w; go_simp; try with_reducible rfl)
          go_simp
          refine hK _ _ ?_
          clear hK K
          refine take_k (i := 11) (v := ?_) rfl (by kernel_rfl) (by kernel_rfl) (by kernel_rfl) (fun _ _ _ h => h) (Or.inl ⟨by rfl, ?_⟩) (fun K hK => ?_)
          rotate_left 1
          · (intro w; go_simp; try with_reducible rfl)
          go_simp
          refine hK _ _ ?_
          clear hK K
          refine take_k (i := 14) (v := ?_) rfl (by kernel_rfl) (by kernel_rfl) (by kernel_rfl) (fun _ _ _ h => h) (Or.inl ⟨by rfl, ?_⟩) (fun K hK => ?_)
          rotate_left 1
          · (intro w; go_simp; try with_reducible rfl)
          go_simp
          refine hK _ _ ?_
          clear hK K
          refine take_k (i := 15) (v := ?_) rfl (by kernel_rfl) (by kernel_rfl) (by kernel_rfl) (fun _ _ _ h => h) (Or.inl ⟨by rfl, ?_⟩) (fun K hK => ?_)
          rotate_left 1
          · (intro w; go_simp; try with_reducible rfl)
          go_simp
          refine hK _ _ ?_
          clear hK K
          refine take_k (i := 16) (v := ?_) rfl (by kernel_rfl) (by kernel_rfl) (by kernel_rfl) (fun _ _ _ h => h) (Or.inl ⟨by rfl, ?_⟩) (fun K hK => ?_)
          rotate_left 1
          · (intro w; go_simp; try with_reducible rfl)
          go_simp
          refine hK _ _ ?_
          clear hK K
          refine take_k (i := 17) (v := ?_) rfl (by kernel_rfl) (by kernel_rfl) (by kernel_rfl) (fun _ _ _ h => h) (Or.inl ⟨by rfl, ?_⟩) (fun K hK => ?_)
          rotate_left 1
          · (intro w; go_simp; try with_reducible rfl)
          go_simp
          refine hK _ _ ?_
          clear hK K
          refine wpAny_ready (rs := [12]) (by kernel_rfl) (by simp) ?_
          refine AllReady.cons rfl (fun K hK => ?_) ?_
          · go_simp
            go_wp2_with (go_at_call 13; with_reducible refine (BA.out _ (by with_reducible assumption)).mono ?_; rintro e wX ⟨A, cX, rfl, hr, hg⟩; have hgg := World.grownBy.refl wX none; have KX : Hid (w6.grownBy wX none) := Lib.hid (only_trans (Hid.out (by with_reducible assumption)) hg); have ks : ∀ Y, wX.grownBy Y none → (Go.convert 27 9 (.slice A n cX)).run Try.prog Y = .ok (.string Z) Y := fun Y hY => hZ.out ▸ run_string_rd Y 27 5 9 Try.underlying27 Try.underlying5 Try.underlying9 cX (hr.out.keep fun p hp => World.cell?_of_block (hY.block _ hp (by simp))))
            try (refine hK _ _ ?_; clear hK K)
            refine wpAny_ready (rs := [13]) (by kernel_rfl) (by simp) ?_
            refine AllReady.cons rfl (fun K hK => ?_) ?_
            · go_simp
              refine hK _ _ ?_
              clear hK K
              refine take_k (i := 18) (v := ?_) rfl (by kernel_rfl) (by kernel_rfl) (by kernel_rfl) (fun _ _ _ h => h) (Or.inl ⟨by rfl, ?_⟩) (fun K hK => ?_)
              rotate_left 1
              · (intro w; go_simp; try with_reducible rfl)
              go_simp
              refine hK _ _ ?_
              clear hK K
              refine take_k (i := 19) (v := ?_) rfl (by kernel_rfl) (by kernel_rfl) (by kernel_rfl) (fun _ _ _ h => h) (Or.inl ⟨by rfl, ?_⟩) (fun K hK => ?_)
              rotate_left 1
              · (intro w; go_simp; try with_reducible rfl)
              go_simp
              refine hK _ _ ?_
              clear hK K
              refine take_k (i := 20) (v := ?_) rfl (by kernel_rfl) (by kernel_rfl) (by kernel_rfl) (fun _ _ _ h => h) (Or.inl ⟨by rfl, ?_⟩) (fun K hK => ?_)
              rotate_left 1
              · (intro w; go_simp; try with_reducible rfl)
              go_simp
              refine hK _ _ ?_
              clear hK K
              refine wpAny_done (by kernel_rfl) ?_ _
              go_wp2
              go_ret
              exact ⟨rfl, below_grown (only_trans G6.out (Hid.out (by with_reducible assumption)))⟩
            exact AllReady.nil
          exact AllReady.nil
        exact AllReady.nil
      exact AllReady.nil
    refine AllReady.cons rfl (fun K hK => ?_) ?_
    · go_simp
      go_wp2_with (go_at_call 13; with_reducible refine (BB.out _ (by with_reducible assumption)).mono ?_; rintro e wX ⟨A, cX, rfl, hr, hg⟩; have hgg := World.grownBy.refl wX none; have KX : Hid (w6.grownBy wX none) := Lib.hid (only_trans (Hid.out (by with_reducible assumption)) hg); have ks : ∀ Y, wX.grownBy Y none → (Go.convert 27 9 (.slice A n cX)).run Try.prog Y = .ok (.string Z) Y := fun Y hY => hZ.out ▸ run_string_rd Y 27 5 9 Try.underlying27 Try.underlying5 Try.underlying9 cX (hr.out.keep fun p hp => World.cell?_of_block (hY.block _ hp (by simp))))
      try (refine hK _ _ ?_; clear hK K)
      refine wpAny_ready (rs := [4, 7]) (by kernel_rfl) (by simp) ?_
      refine AllReady.cons rfl (fun K hK => ?_) ?_
      · go_simp
        refine hK _ _ ?_
        clear hK K
        refine wpAny_ready (rs := [7]) (by kernel_rfl) (by simp) ?_
        refine AllReady.cons rfl (fun K hK => ?_) ?_
        · go_simp
          refine hK _ _ ?_
          clear hK K
          refine take_k (i := 8) (v := ?_) rfl (by kernel_rfl) (by kernel_rfl) (by kernel_rfl) (fun _ _ _ h => h) (Or.inl ⟨by rfl, ?_⟩) (fun K hK => ?_)
          rotate_left 1
          · (intro w; go_simp; try with_reducible rfl)
          go_simp
          refine hK _ _ ?_
          clear hK K
          refine take_k (i := 9) (v := ?_) rfl (by kernel_rfl) (by kernel_rfl) (by kernel_rfl) (fun _ _ _ h => h) (Or.inl ⟨by rfl, ?_⟩) (fun K hK => ?_)
          rotate_left 1
          · (intro w; go_simp; try with_reducible rfl)
          go_simp
          refine hK _ _ ?_
          clear hK K
          refine take_k (i := 10) (v := ?_) rfl (by kernel_rfl) (by kernel_rfl) (by kernel_rfl) (fun _ _ _ h => h) (Or.inl ⟨by rfl, ?_⟩) (fun K hK => ?_)
          rotate_left 1
          · (intro w; go_simp; try with_reducible rfl)
          go_simp
          refine hK _ _ ?_
          clear hK K
          refine take_k (i := 11) (v := ?_) rfl (by kernel_rfl) (by kernel_rfl) (by kernel_rfl) (fun _ _ _ h => h) (Or.inl ⟨by rfl, ?_⟩) (fun K hK => ?_)
          rotate_left 1
          · (intro w; go_simp; try with_reducible rfl)
          go_simp
          refine hK _ _ ?_
          clear hK K
          refine take_k (i := 14) (v := ?_) rfl (by kernel_rfl) (by kernel_rfl) (by kernel_rfl) (fun _ _ _ h => h) (Or.inl ⟨by rfl, ?_⟩) (fun K hK => ?_)
          rotate_left 1
          · (intro w; go_simp; try with_reducible rfl)
          go_simp
          refine hK _ _ ?_
          clear hK K
          refine take_k (i := 15) (v := ?_) rfl (by kernel_rfl) (by kernel_rfl) (by kernel_rfl) (fun _ _ _ h => h) (Or.inl ⟨by rfl, ?_⟩) (fun K hK => ?_)
          rotate_left 1
          · (intro w; go_simp; try with_reducible rfl)
          go_simp
          refine hK _ _ ?_
          clear hK K
          refine take_k (i := 16) (v := ?_) rfl (by kernel_rfl) (by kernel_rfl) (by kernel_rfl) (fun _ _ _ h => h) (Or.inl ⟨by rfl, ?_⟩) (fun K hK => ?_)
          rotate_left 1
          · (intro w; go_simp; try with_reducible rfl)
          go_simp
          refine hK _ _ ?_
          clear hK K
          refine take_k (i := 17) (v := ?_) rfl (by kernel_rfl) (by kernel_rfl) (by kernel_rfl) (fun _ _ _ h => h) (Or.inl ⟨by rfl, ?_⟩) (fun K hK => ?_)
          rotate_left 1
          · (intro w; go_simp; try with_reducible rfl)
          go_simp
          refine hK _ _ ?_
          clear hK K
          refine wpAny_ready (rs := [12]) (by kernel_rfl) (by simp) ?_
          refine AllReady.cons rfl (fun K hK => ?_) ?_
          · go_simp
            go_wp2_with (go_at_call 13; with_reducible refine (BA.out _ (by with_reducible assumption)).mono ?_; rintro e wX ⟨A, cX, rfl, hr, hg⟩; have hgg := World.grownBy.refl wX none; have KX : Hid (w6.grownBy wX none) := Lib.hid (only_trans (Hid.out (by with_reducible assumption)) hg); have ks : ∀ Y, wX.grownBy Y none → (Go.convert 27 9 (.slice A n cX)).run Try.prog Y = .ok (.string Z) Y := fun Y hY => hZ.out ▸ run_string_rd Y 27 5 9 Try.underlying27 Try.underlying5 Try.underlying9 cX (hr.out.keep fun p hp => World.cell?_of_block (hY.block _ hp (by simp))))
            try (refine hK _ _ ?_; clear hK K)
            refine wpAny_ready (rs := [13]) (by kernel_rfl) (by simp) ?_
            refine AllReady.cons rfl (fun K hK => ?_) ?_
            · go_simp
              refine hK _ _ ?_
              clear hK K
              refine take_k (i := 18) (v := ?_) rfl (by kernel_rfl) (by kernel_rfl) (by kernel_rfl) (fun _ _ _ h => h) (Or.inl ⟨by rfl, ?_⟩) (fun K hK => ?_)
              rotate_left 1
              · (intro w; go_simp; try with_reducible rfl)
              go_simp
              refine hK _ _ ?_
              clear hK K
              refine take_k (i := 19) (v := ?_) rfl (by kernel_rfl) (by kernel_rfl) (by kernel_rfl) (fun _ _ _ h => h) (Or.inl ⟨by rfl, ?_⟩) (fun K hK => ?_)
              rotate_left 1
              · (intro w; go_simp; try with_reducible rfl)
              go_simp
              refine hK _ _ ?_
              clear hK K
              refine take_k (i := 20) (v := ?_) rfl (by kernel_rfl) (by kernel_rfl) (by kernel_rfl) (fun _ _ _ h => h) (Or.inl ⟨by rfl, ?_⟩) (fun K hK => ?_)
              rotate_left 1
              · (intro w; go_simp; try with_reducible rfl)
              go_simp
              refine hK _ _ ?_
              clear hK K
              refine wpAny_done (by kernel_rfl) ?_ _
              go_wp2
              go_ret
              exact ⟨rfl, below_grown (only_trans G6.out (Hid.out (by with_reducible assumption)))⟩
            exact AllReady.nil
          exact AllReady.nil
        exact AllReady.nil
      refine AllReady.cons rfl (fun K hK => ?_) ?_
      · go_simp
        refine hK _ _ ?_
        clear hK K
        refine wpAny_ready (rs := [4]) (by kernel_rfl) (by simp) ?_
        refine AllReady.cons rfl (fun K hK => ?_) ?_
        · go_simp
          refine hK _ _ ?_
          clear hK K
          refine take_k (i := 8) (v := ?_) rfl (by kernel_rfl) (by kernel_rfl) (by kernel_rfl) (fun _ _ _ h => h) (Or.inl ⟨by rfl, ?_⟩) (fun K hK => ?_)
          rotate_left 1
          · (intro w; go_simp; try with_reducible rfl)
          go_simp
          refine hK _ _ ?_
          clear hK K
          refine take_k (i := 9) (v := ?_) rfl (by kernel_rfl) (by kernel_rfl) (by kernel_rfl) (fun _ _ _ h => h) (Or.inl ⟨by rfl, ?_⟩) (fun K hK => ?_)
          rotate_left 1
          · (intro w; go_simp; try with_reducible rfl)
          go_simp
          refine hK _ _ ?_
          clear hK K
          refine take_k (i := 10) (v := ?_) rfl (by kernel_rfl) (by kernel_rfl) (by kernel_rfl) (fun _ _ _ h => h) (Or.inl ⟨by rfl, ?_⟩) (fun K hK => ?_)
          rotate_left 1
          · (intro w; go_simp; try with_reducible rfl)
          go_simp
          refine hK _ _ ?_
          clear hK K
          refine take_k (i := 11) (v := ?_) rfl (by kernel_rfl) (by kernel_rfl) (by kernel_rfl) (fun _ _ _ h => h) (Or.inl ⟨by rfl, ?_⟩) (fun K hK => ?_)
          rotate_left 1
          · (intro w; go_simp; try with_reducible rfl)
          go_simp
          refine hK _ _ ?_
          clear hK K
          refine take_k (i := 14) (v := ?_) rfl (by kernel_rfl) (by kernel_rfl) (by kernel_rfl) (fun _ _ _ h => h) (Or.inl ⟨by rfl, ?_⟩) (fun K hK => ?_)
          rotate_left 1
          · (intro w; go_simp; try with_reducible rfl)
          go_simp
          refine hK _ _ ?_
          clear hK K
          refine take_k (i := 15) (v := ?_) rfl (by kernel_rfl) (by kernel_rfl) (by kernel_rfl) (fun _ _ _ h => h) (Or.inl ⟨by rfl, ?_⟩) (fun K hK => ?_)
          rotate_left 1
          · (intro w; go_simp; try with_reducible rfl)
          go_simp
          refine hK _ _ ?_
          clear hK K
          refine take_k (i := 16) (v := ?_) rfl (by kernel_rfl) (by kernel_rfl) (by kernel_rfl) (fun _ _ _ h => h) (Or.inl ⟨by rfl, ?_⟩) (fun K hK => ?_)
          rotate_left 1
          · (intro w; go_simp; try with_reducible rfl)
          go_simp
          refine hK _ _ ?_
          clear hK K
          refine take_k (i := 17) (v := ?_) rfl (by kernel_rfl) (by kernel_rfl) (by kernel_rfl) (fun _ _ _ h => h) (Or.inl ⟨by rfl, ?_⟩) (fun K hK => ?_)
          rotate_left 1
          · (intro w; go_simp; try with_reducible rfl)
          go_simp
          refine hK _ _ ?_
          clear hK K
          refine wpAny_ready (rs := [12]) (by kernel_rfl) (by simp) ?_
          refine AllReady.cons rfl (fun K hK => ?_) ?_
          · go_simp
            go_wp2_with (go_at_call 13; with_reducible refine (BA.out _ (by with_reducible assumption)).mono ?_; rintro e wX ⟨A, cX, rfl, hr, hg⟩; have hgg := World.grownBy.refl wX none; have KX : Hid (w6.grownBy wX none) := Lib.hid (only_trans (Hid.out (by with_reducible assumption)) hg); have ks : ∀ Y, wX.grownBy Y none → (Go.convert 27 9 (.slice A n cX)).run Try.prog Y = .ok (.string Z) Y := fun Y hY => hZ.out ▸ run_string_rd Y 27 5 9 Try.underlying27 Try.underlying5 Try.underlying9 cX (hr.out.keep fun p hp => World.cell?_of_block (hY.block _ hp (by simp))))
            try (refine hK _ _ ?_; clear hK K)
            refine wpAny_ready (rs := [13]) (by kernel_rfl) (by simp) ?_
            refine AllReady.cons rfl (fun K hK => ?_) ?_
            · go_simp
              refine hK _ _ ?_
              clear hK K
              refine take_k (i := 18) (v := ?_) rfl (by kernel_rfl) (by kernel_rfl) (by kernel_rfl) (fun _ _ _ h => h) (Or.inl ⟨by rfl, ?_⟩) (fun K hK => ?_)
              rotate_left 1
              · (intro w; go_simp; try with_reducible rfl)
              go_simp
              refine hK _ _ ?_
              clear hK K
              refine take_k (i := 19) (v := ?_) rfl (by kernel_rfl) (by kernel_rfl) (by kernel_rfl) (fun _ _ _ h => h) (Or.inl ⟨by rfl, ?_⟩) (fun K hK => ?_)
              rotate_left 1
              · (intro w; go_simp; try with_reducible rfl)
              go_simp
              refine hK _ _ ?_
              clear hK K
              refine take_k (i := 20) (v := ?_) rfl (by kernel_rfl) (by kernel_rfl) (by kernel_rfl) (fun _ _ _ h => h) (Or.inl ⟨by rfl, ?_⟩) (fun K hK => ?_)
              rotate_left 1
              · (intro w; go_simp; try with_reducible rfl)
              go_simp
              refine hK _ _ ?_
              clear hK K
              refine wpAny_done (by kernel_rfl) ?_ _
              go_wp2
              go_ret
              exact ⟨rfl, below_grown (only_trans G6.out (Hid.out (by with_reducible assumption)))⟩
            exact AllReady.nil
          exact AllReady.nil
        exact AllReady.nil
      exact AllReady.nil
    exact AllReady.nil
  exact AllReady.nil
end Go.Proofs.Ytldgldibkibknaa
