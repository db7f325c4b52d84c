/-
  The law BitsWhole, walked.
-/
import Derived.Test.YtldgldibkibknaaWholeN
import Derived.Deep.RegionWith
namespace Go.Proofs.Ytldgldibkibknaa
open Go.RowKit

/-- A writer of the call's own. -/
def OwnW (w0 w : World) (g : Nat) (bs : List Bool) : Prop := w0.grownBy w none ∧ w0.heap.size ≤ g ∧ ∃ v, Wr w g bs v
theorem OwnW.put {w0 w w' : World} {g : Nat} {bs bs' : List Bool} {v v' : Value} (hg : w0.grownBy w none) (h0 : w0.heap.size ≤ g) (hw : Wr w g bs v) (hf : Frm w w' g v.ownBlock) (h' : Wr w' g bs' v') : OwnW w0 w' g bs' :=
  ⟨hf.over hg h0 (fun j e => by have := (hw.row_lt j e).2; omega), h0, v', h'⟩
theorem OwnW.grown {w0 w w' : World} {g : Nat} {bs : List Bool} (h : OwnW w0 w g bs) (k : w.grownBy w' none) : OwnW w0 w' g bs := by
  obtain ⟨h1, h2, v, h3⟩ := h
  exact ⟨only_trans h1 k, h2, v, h3.grown k⟩
/-- A reader of the call's own leaves the writer as it was. -/
theorem OwnW.read {w0 w w' : World} {g gr : Nat} {bs : List Bool} (h : OwnW w0 w g bs) (hr : w0.heap.size ≤ gr) (hne : g ≠ gr) (hrow : ∀ v, Wr w g bs v → v.ownBlock ≠ some gr) (k : w.grownBy w' (some gr)) : OwnW w0 w' g bs := by
  obtain ⟨h1, h2, v, h3⟩ := h
  refine ⟨grown_over h1 k hr, h2, v, h3.blk.grown k (fun e => hne (by injection e)), h3.row.kept k ?_⟩
  rcases hv : v.ownBlock with _ | j
  · exact .inl rfl
  · exact .inr fun e => hrow v h3 (by rw [hv]; exact e)
/-- The writer's row lies below B. -/
def OwnB (w0 w : World) (g B : Nat) (bs : List Bool) : Prop := w0.grownBy w none ∧ w0.heap.size ≤ g ∧ g < B ∧ ∃ v, Wr w g bs v ∧ ∀ k, v.ownBlock = some k → k < B
theorem OwnW.below {w0 w : World} {g : Nat} {bs : List Bool} (h : OwnW w0 w g bs) : OwnB w0 w g w.heap.size bs := by
  obtain ⟨h1, h2, v, h3⟩ := h
  exact ⟨h1, h2, h3.blk.lt, v, h3, fun k e => (h3.row_lt k e).1⟩
theorem OwnB.grown {w0 w w' : World} {g B : Nat} {bs : List Bool} (h : OwnB w0 w g B bs) (k : w.grownBy w' none) : OwnB w0 w' g B bs := by
  obtain ⟨h1, h2, h3, v, h4, h5⟩ := h
  exact ⟨only_trans h1 k, h2, h3, v, h4.grown k, h5⟩
theorem OwnB.read {w0 w w' : World} {g B gr : Nat} {bs : List Bool} (h : OwnB w0 w g B bs) (hr : B ≤ gr) (k : w.grownBy w' (some gr)) : OwnB w0 w' g B bs := by
  obtain ⟨h1, h2, h3, v, h4, h5⟩ := h
  refine ⟨grown_over h1 k (by omega), h2, h3, v, ⟨h4.blk.grown k (fun e => by injection e; omega), h4.row.kept k ?_⟩, h5⟩
  rcases hv : v.ownBlock with _ | j
  · exact .inl rfl
  · exact .inr fun e => by have := h5 j hv; injection e; omega

set_option maxRecDepth 100000 in
set_option maxHeartbeats 4000000 in
theorem whole (A : Option Addr) (n cap : Nat) (l0 : List Nat) (w : World) (hn : n ≤ cap) (hcap : cap ≤ 9223372036854775807) (hlt : ∀ c ∈ l0, c < 256)
    (hR : Rd w w.heap.size A n (l0.map bv)) :
    Calls Try.prog 5 #[.slice A n cap] w fun e w' => e = .returned (.bool true) ∧ Below w.heap.size w w' := by
  obtain ⟨q, hq, hq200, hqc⟩ := fewer n 200
  obtain ⟨l, Hl⟩ : ∃ l, Hid (l = l0.take q) := ⟨_, Lib.hid rfl⟩
  have HR := Lib.hid ((hR.take_ hq).of_ (by rw [Hl.out, List.map_take]) : Rd w w.heap.size A q (l.map bv))
  have HLT : Hid (∀ c ∈ l, c < 256) := Lib.hid (fun c hc => hlt c (List.mem_of_mem_take (Hl.out ▸ hc)))
  have HLEN : Hid (l.length = q) := Lib.hid (by simpa using HR.out.1)
  have HS := Lib.hid (shown_calls w)
  have HCELL : Hid (∀ (W : World), w.grownBy W none → ∀ i, i < q → ∃ (b off x : Nat), A = some ⟨b, off, none⟩ ∧ x < 256 ∧ (∀ h : i < l.length, l[i] = x) ∧ W.cell? ⟨b, off + i, none⟩ = some (.int .u8 (x : Int))) := Lib.hid (fun W hW i hi => by
    obtain ⟨b, off, u, e, hb, hu, hc⟩ := HR.out.at_ hi
    have hil : i < l.length := by rw [HLEN.out]; exact hi
    rw [List.getElem?_map, List.getElem?_eq_getElem hil] at hu
    simp at hu
    refine ⟨b, off, l[i], e, HLT.out _ (List.getElem_mem hil), fun _ => rfl, ?_⟩
    rw [hW.cell hc (by simp), ← hu]
    rfl)
  clear hR hlt Hl
  rcases hqc with ⟨rfl, h⟩ | ⟨rfl, h⟩
  · go_enter Try.func5, Try.ntmps5
    go_wp2_with fail
    refine HS.out.mono ?_
    rintro e w1 ⟨rfl, h1⟩
    have HG1 := Lib.hid h1
    clear h1
    go_wp2_with fail
    have HW2 : Hid (OwnW w (w1.alloc (.cells #[.slice none 0 0, .int .i64 0] 33)) w1.heap.size (flat (l.take 0))) := Lib.hid ⟨only_trans HG1.out (World.grownBy_alloc _ _ _), HG1.out.size, _, wr_new w1⟩
    obtain ⟨w2, hw2⟩ : ∃ w2, w1.alloc (.cells #[.slice none 0 0, .int .i64 0] 33) = w2 := ⟨_, rfl⟩
    obtain ⟨gw, hgw⟩ : ∃ gw, w1.heap.size = gw := ⟨_, rfl⟩
    rw [hw2, hgw] at HW2
    rw [hw2, hgw]
    clear hw2 hgw HG1
    go_loopw [5] (fun i wr => ∃ k : Nat, k ≤ 200 ∧ i = .int .i64 k ∧ Hid (OwnW w wr gw (flat (l.take k)))) (fun i _ => 200 - (iv i).toNat)
    case atStart => exact ⟨0, by omega, rfl, HW2⟩
    case round =>
      obtain ⟨k, hk, rfl, HW⟩ := hrel
      obtain ⟨hg, h0, v, hwr⟩ := HW.out
      have HG := Lib.hid hg
      have H0 := Lib.hid h0
      have HWR := Lib.hid hwr
      clear hg h0 hwr
      by_cases hlt : k < 200
      · obtain ⟨b, off, x, rfl, hx, hxe, hc⟩ := HCELL.out wr HG.out k hlt
        have hlk : k < l.length := by rw [HLEN.out]; exact hlt
        have HX := Lib.hid (hxe hlk)
        have ex : IntKind.u64.wrap (x : Int) = (x : Int) := by rw [IntKind.wrap_u64]; omega
        clear hxe
        go_wp2_with fail
        clear hc
        refine (put_int gw x x 8 rfl (by omega) (flat (l.take k)) (by rw [flat_len, List.length_take]; omega) v wr HWR.out).mono ?_
        rintro e w3 ⟨rfl, v3, hw3, _, hf3⟩
        rw [show inn 8 = 8 from rfl] at hw3
        have HW3 : Hid (OwnW w w3 gw (flat (l.take (k + 1)))) := Lib.hid (by
          rw [flat_take l k hlk, HX.out]
          exact OwnW.put HG.out H0.out HWR.out hf3 hw3)
        clear hw3 hf3
        go_wp2_with fail
        go_roundw
        case rel => exact ⟨k + 1, by omega, by go_num, HW3⟩
        case measure => simp [iv]; omega
      · obtain rfl : 200 = k := by omega
        have HB : Hid (OwnB w wr gw wr.heap.size (flat l)) := Lib.hid (by
          have := HW.out.below
          rwa [List.take_of_length_le (by rw [HLEN.out]; omega)] at this)
        obtain ⟨B, hB⟩ : ∃ B, wr.heap.size = B := ⟨_, rfl⟩
        rw [hB] at HB
        have HBS := Lib.hid hB
        clear HW hB HWR
        go_wp2_with fail
        refine (newq_calls w.heap.size _ _ A l (by omega) HLT.out wr (HR.out.keep fun p hp => World.cell?_of_block (HG.out.block _ hp (by simp))) HG.out.size).mono ?_
        rintro e w4 ⟨gx, Ax, rfl, x4, hx4, ax4, h4⟩
        have HG4 := Lib.hid (only_trans HG.out h4)
        have HB4 := Lib.hid (HB.out.grown h4)
        have HX4 := Lib.hid x4
        have HAX := Lib.hid ax4
        have HHX : Hid (B ≤ gx) := Lib.hid (by have := HBS.out; omega)
        clear x4 hx4 ax4 h4 HG HB
        go_wp2_with fail
        refine (newq_calls w.heap.size _ _ A l (by omega) HLT.out w4 (HR.out.keep fun p hp => World.cell?_of_block (HG4.out.block _ hp (by simp))) HG4.out.size).mono ?_
        rintro e w5 ⟨gy, Ay, rfl, y5, hy5, ay5, h5⟩
        have HG5 := Lib.hid (only_trans HG4.out h5)
        have HB5 := Lib.hid (HB4.out.grown h5)
        have HX5 := Lib.hid (HX4.out.grown h5)
        have HY5 := Lib.hid y5
        have HXY : Hid (Ap gx Ax gy Ay) := Lib.hid ⟨by have := HX4.out.rr.lt; omega, fun ad e => by have := (HAX.out ad e).2; have := HX4.out.rr.lt; omega, fun ad e => by have := (ay5 ad e).1; have := HX4.out.rr.lt; omega⟩
        have HHY : Hid (B ≤ gy) := Lib.hid (by have := HX4.out.rr.lt; have := HHX.out; omega)
        clear y5 hy5 ay5 h5 HX4 HB4 HG4 HAX
        go_wp2_with fail
        obtain ⟨wo, rfl⟩ : ∃ wo : World, wo = wr := ⟨_, rfl⟩
        go_loopw [8] (fun i wr => ∃ j : Nat, 2 * j ≤ 200 + 1 ∧ 2 * j ≤ 201 ∧ i = .int .i64 (2 * j : Nat) ∧ (2 * j ≤ 200) ∧ Hid (OwnB w wr gw B (flat l)) ∧ Hid (Rq wr gx Ax l (16 * j)) ∧ Hid (Rq wr gy Ay l (16 * j))) (fun i _ => 200 - (iv i).toNat)
        case atStart => exact ⟨0, by omega, by omega, rfl, by omega, HB5, HX5, HY5⟩
        case round =>
          obtain ⟨j, hj, hj2, rfl, hj3, HB, HX, HY⟩ := hrel
          obtain ⟨i, hi⟩ : ∃ i, 2 * j = i := ⟨_, rfl⟩
          have ei : IntKind.i64.wrap ((i : Int) + 1) = (i : Int) + 1 := IntWalk.i64_in _ (by omega)
          rw [hi] at hj hj2 hj3
          rw [hi]
          by_cases hlt2 : i + 1 < 200
          · obtain ⟨b, off, x, hA, hx, hxe, hc⟩ := HCELL.out wr HB.out.1 i (by omega)
            obtain ⟨b', off', y, hA', hy, hye, hc'⟩ := HCELL.out wr HB.out.1 (i + 1) (by omega)
            subst hA
            injection hA' with hA'
            injection hA' with e1 e2
            subst e1 e2
            have hil : i < l.length := by rw [HLEN.out]; omega
            have HXE := Lib.hid (hxe hil)
            have hil2 : i + 1 < l.length := by rw [HLEN.out]; omega
            have HYE := Lib.hid (hye hil2)
            have n1 := num8 l HLT.out i hil
            have n2 := num8 l HLT.out (i + 1) hil2
            have n3 := num16 l HLT.out i hil2
            rw [hxe hil] at n1 n3
            rw [hye hil2] at n2 n3
            have g1 : got l (16 * j) (inn 8) = (x, true, 8 * (i + 1)) := by
              rw [show inn 8 = 8 from rfl, show 16 * j = 8 * i by omega, got_yes l _ _ (by omega), n1, show 8 * i + 8 = 8 * (i + 1) by omega]
            have g2 : got l (8 * (i + 1)) (inn 8) = (y, true, 16 * (j + 1)) := by
              rw [show inn 8 = 8 from rfl, got_yes l _ _ (by omega), n2, show 8 * (i + 1) + 8 = 16 * (j + 1) by omega]
            have g3 : got l (16 * j) (inn 16) = (x * 256 + y, true, 16 * (j + 1)) := by
              rw [show inn 16 = 16 from rfl, show 16 * j = 8 * i by omega, got_yes l _ _ (by omega), n3, show 8 * i + 16 = 16 * (j + 1) by omega]
            have GG1 := Lib.hid g1
            have GG2 := Lib.hid g2
            have GG3 := Lib.hid g3
            have exw : IntKind.u64.wrap (x : Int) = (x : Int) := by rw [IntKind.wrap_u64]; omega
            have eyw : IntKind.u64.wrap (y : Int) = (y : Int) := by rw [IntKind.wrap_u64]; omega
            have esh : IntKind.u64.wrap ((x : Int) * 256) = ((x * 256 : Nat) : Int) := by rw [IntKind.wrap_u64]; omega
            have esh3 : (x : Int) * 256 = ((x * 256 : Nat) : Int) := by omega
            have eor := u64_or_byte x y hx hy
            obtain ⟨xs, hxs⟩ : ∃ xs, x * 256 = xs := ⟨_, rfl⟩
            rw [hxs] at esh esh3 eor
            obtain ⟨xy, hxy⟩ : ∃ xy, xs + y = xy := ⟨_, rfl⟩
            rw [hxy] at eor
            have GG4 : Hid (x * 256 + y = xy) := Lib.hid (by rw [hxs, hxy])
            have HII := Lib.hid hi
            have et : IntKind.i64.wrap ((i : Int) + 2) = (i : Int) + 2 := IntWalk.i64_in _ (by omega)
            clear g1 g2 g3 n1 n2 n3 hxe hye hxs hxy hi
            go_wp2_with fail
            refine (getq_calls gx Ax l (16 * j) 8 wr HX.out).mono ?_
            rintro e w6 ⟨rfl, x6, h6⟩
            rw [GG1.out] at x6 ⊢
            have HX6 := Lib.hid x6
            have HY6 := Lib.hid (HY.out.other h6 HXY.out.swap)
            have HB6 := Lib.hid (HB.out.read HHX.out h6)
            clear x6 h6
            dsimp only
            go_wp2_with fail
            refine (getq_calls gx Ax l (8 * (i + 1)) 8 w6 HX6.out).mono ?_
            rintro e w7 ⟨rfl, x7, h7⟩
            rw [GG2.out] at x7 ⊢
            have HX7 := Lib.hid x7
            have HY7 := Lib.hid (HY6.out.other h7 HXY.out.swap)
            have HB7 := Lib.hid (HB6.out.read HHX.out h7)
            clear x7 h7 HX6 HY6 HB6
            dsimp only
            go_wp2_with fail
            refine (getq_calls gy Ay l (16 * j) 16 w7 HY7.out).mono ?_
            rintro e w8 ⟨rfl, y8, h8⟩
            rw [GG3.out] at y8 ⊢
            have HY8 := Lib.hid y8
            have HX8 := Lib.hid (HX7.out.other h8 HXY.out)
            have hB8 := HB7.out.read HHY.out h8
            have HB8 := Lib.hid hB8
            rw [GG4.out]
            dsimp only
            clear y8 h8 HX7 HY7 HB7
            obtain ⟨b2, off2, x2, hA2, _, hxe2, hc2⟩ := HCELL.out w8 hB8.1 i (by omega)
            injection hA2 with hA2
            injection hA2 with e1 e2
            subst e1 e2
            obtain ⟨b3, off3, y3, hA3, _, hye3, hc3⟩ := HCELL.out w8 hB8.1 (i + 1) (by omega)
            injection hA3 with hA3
            injection hA3 with e1 e2
            subst e1 e2
            have q1 : x2 = x := (hxe2 hil).symm.trans HXE.out
            have q2 : y3 = y := (hye3 hil2).symm.trans HYE.out
            subst q1 q2
            have hc2' : w8.cell? ⟨b, off + i, none⟩ = some (.int .u8 (x2 : Int)) := hc2
            have hc3' : w8.cell? ⟨b, off + (i + 1), none⟩ = some (.int .u8 (y3 : Int)) := hc3
            have hx0 : ((x2 : Int) != x2) = false := by simp
            have hy0 : ((y3 : Int) != y3) = false := by simp
            have hz0 : ((xy : Int) != xy) = false := by simp
            clear hxe2 hye3 hB8
            go_wp2_with fail
            go_roundw
            case rel => exact ⟨j + 1, by have := HII.out; omega, by have := HII.out; omega, by have := HII.out; rw [show 2 * (j + 1) = i + 2 by omega]; rfl, by have := HII.out; omega, HB8, HX8, HY8⟩
            case measure => simp [iv]; omega
          · obtain ⟨hg, h0, _, v, hwr, _⟩ := HB.out
            have HGW := Lib.hid hg
            obtain ⟨Z, hZ⟩ : ∃ Z, str l = Z := ⟨_, rfl⟩
            have hlen : ((flat l).length + 7) / 8 = 200 := by have := HLEN.out; rw [flat_len]; omega
            have hpk : pk (flat l) 200 = l := by
              have := pk_flat l HLT.out
              rwa [HLEN.out] at this
            have BA : Hid (∀ X, wr.grownBy X none → Calls Try.prog 13 #[.pointer (some ⟨gw, 0, none⟩)] X fun e w' => ∃ A c, e = .returned (.slice A 200 c) ∧ Hid (Rd w' w'.heap.size A 200 (l.map bv)) ∧ X.grownBy w' none) := Lib.hid (fun X hX => by
              have := bytes_calls gw (flat l) (by rw [flat_len, HLEN.out]; omega) v X (hwr.grown hX)
              rw [hlen, hpk] at this
              refine this.mono ?_
              rintro e w' ⟨A, c, he, h1, h2⟩
              exact ⟨A, c, he, Lib.hid (rd_of_own h1), h2⟩)
            have hd : wr.grownBy wr.drew none := only_drawn (World.grownBy.refl wr none) 1
            have hs : wr.grownBy wr none := World.grownBy.refl wr none
            have ka : ∀ Y, wr.grownBy Y none → (Go.convert 27 9 (.slice A 200 cap)).run Try.prog Y = .ok (.string Z) Y := fun Y hY => hZ ▸ run_string_rd Y 27 5 9 Try.underlying27 Try.underlying5 Try.underlying9 cap (HR.out.keep fun p hp => World.cell?_of_block ((only_trans hg hY).block _ hp (by simp)))
            have HZ := Lib.hid hZ
            clear hg h0 hwr hlen hpk hZ hi HX HY HB
            go_wp2_with fail
            refine wp_region_any (by kernel_rfl) ?_
            try (change wpAny _ _ _ _ _ _ _ (World.drew _))
            refine take_k (i := 0) (v := ?_) rfl (by kernel_rfl) (by kernel_rfl) (by kernel_rfl) (fun _ _ _ h => h) (Or.inl ⟨by rfl, ?_⟩) (fun K hK => ?_)
            rotate_left 1
            · (intro w; go_simp; try with_reducible rfl)
            go_simp
            refine hK _ _ ?_
            clear hK K
            refine take_k (i := 1) (v := ?_) rfl (by kernel_rfl) (by kernel_rfl) (by kernel_rfl) (fun _ _ _ h => h) (Or.inl ⟨by rfl, ?_⟩) (fun K hK => ?_)
            rotate_left 1
            · (intro w; go_simp; try with_reducible rfl)
            go_simp
            refine hK _ _ ?_
            clear hK K
            refine take_k (i := 2) (v := ?_) rfl (by kernel_rfl) (by kernel_rfl) (by kernel_rfl) (fun _ _ _ h => h) (Or.inl ⟨by rfl, ?_⟩) (fun K hK => ?_)
            rotate_left 1
            · (intro w; go_simp; try with_reducible rfl)
            go_simp
            refine hK _ _ ?_
            clear hK K
            refine take_k (i := 5) (v := ?_) rfl (by kernel_rfl) (by kernel_rfl) (by kernel_rfl) (fun _ _ _ h => h) (Or.inl ⟨by rfl, ?_⟩) (fun K hK => ?_)
            rotate_left 1
            · (intro w; go_simp; try with_reducible rfl)
            go_simp
            refine hK _ _ ?_
            clear hK K
            refine wpAny_ready (rs := [3, 6]) (by kernel_rfl) (by simp) ?_
            refine AllReady.cons rfl (fun K hK => ?_) ?_
            · go_simp
              refine (BA.out _ hd).mono ?_
              rintro e wX ⟨AX, cX, rfl, hr, hgg⟩
              have hgX := only_trans hd hgg
              have hgr := World.grownBy.refl wX none
              have ks : ∀ Y, wX.grownBy Y none → (Go.convert 27 9 (.slice AX 200 cX)).run Try.prog Y = .ok (.string Z) Y := fun Y hY => HZ.out ▸ run_string_rd Y 27 5 9 Try.underlying27 Try.underlying5 Try.underlying9 cX (hr.out.keep fun p hp => World.cell?_of_block (hY.block _ hp (by simp)))
              try go_simp
              refine hK _ _ ?_
              clear hK K
              refine wpAny_ready (rs := [4, 6]) (by kernel_rfl) (by simp) ?_
              refine AllReady.cons rfl (fun K hK => ?_) ?_
              · go_simp
                refine hK _ _ ?_
                clear hK K
                refine wpAny_ready (rs := [6]) (by kernel_rfl) (by simp) ?_
                refine AllReady.cons rfl (fun K hK => ?_) ?_
                · go_simp
                  refine hK _ _ ?_
                  clear hK K
                  refine take_k (i := 7) (v := ?_) rfl (by kernel_rfl) (by kernel_rfl) (by kernel_rfl) (fun _ _ _ h => h) (Or.inl ⟨by rfl, ?_⟩) (fun K hK => ?_)
                  rotate_left 1
                  · (intro w; go_simp; try with_reducible rfl)
                  go_simp
                  refine hK _ _ ?_
                  clear hK K
                  refine take_k (i := 8) (v := ?_) rfl (by kernel_rfl) (by kernel_rfl) (by kernel_rfl) (fun _ _ _ h => h) (Or.inl ⟨by rfl, ?_⟩) (fun K hK => ?_)
                  rotate_left 1
                  · (intro w; go_simp; try with_reducible rfl)
                  go_simp
                  refine hK _ _ ?_
                  clear hK K
                  refine take_k (i := 9) (v := ?_) rfl (by kernel_rfl) (by kernel_rfl) (by kernel_rfl) (fun _ _ _ h => h) (Or.inl ⟨by rfl, ?_⟩) (fun K hK => ?_)
                  rotate_left 1
                  · (intro w; go_simp; try with_reducible rfl)
                  go_simp
                  refine hK _ _ ?_
                  clear hK K
                  refine wpAny_done (by kernel_rfl) ?_ _
                  go_wp2
                  go_ret
                  exact ⟨rfl, below_grown (only_trans HGW.out hgX)⟩
                exact AllReady.nil
              refine AllReady.cons rfl (fun K hK => ?_) ?_
              · go_simp
                refine hK _ _ ?_
                clear hK K
                refine wpAny_ready (rs := [4]) (by kernel_rfl) (by simp) ?_
                refine AllReady.cons rfl (fun K hK => ?_) ?_
                · go_simp
                  refine hK _ _ ?_
                  clear hK K
                  refine take_k (i := 7) (v := ?_) rfl (by kernel_rfl) (by kernel_rfl) (by kernel_rfl) (fun _ _ _ h => h) (Or.inl ⟨by rfl, ?_⟩) (fun K hK => ?_)
                  rotate_left 1
                  · (intro w; go_simp; try with_reducible rfl)
                  go_simp
                  refine hK _ _ ?_
                  clear hK K
                  refine take_k (i := 8) (v := ?_) rfl (by kernel_rfl) (by kernel_rfl) (by kernel_rfl) (fun _ _ _ h => h) (Or.inl ⟨by rfl, ?_⟩) (fun K hK => ?_)
                  rotate_left 1
                  · (intro w; go_simp; try with_reducible rfl)
                  go_simp
                  refine hK _ _ ?_
                  clear hK K
                  refine take_k (i := 9) (v := ?_) rfl (by kernel_rfl) (by kernel_rfl) (by kernel_rfl) (fun _ _ _ h => h) (Or.inl ⟨by rfl, ?_⟩) (fun K hK => ?_)
                  rotate_left 1
                  · (intro w; go_simp; try with_reducible rfl)
                  go_simp
                  refine hK _ _ ?_
                  clear hK K
                  refine wpAny_done (by kernel_rfl) ?_ _
                  go_wp2
                  go_ret
                  exact ⟨rfl, below_grown (only_trans HGW.out hgX)⟩
                exact AllReady.nil
              exact AllReady.nil
            refine AllReady.cons rfl (fun K hK => ?_) ?_
            · go_simp
              refine hK _ _ ?_
              clear hK K
              refine wpAny_ready (rs := [3]) (by kernel_rfl) (by simp) ?_
              refine AllReady.cons rfl (fun K hK => ?_) ?_
              · go_simp
                refine (BA.out _ hd).mono ?_
                rintro e wX ⟨AX, cX, rfl, hr, hgg⟩
                have hgX := only_trans hd hgg
                have hgr := World.grownBy.refl wX none
                have ks : ∀ Y, wX.grownBy Y none → (Go.convert 27 9 (.slice AX 200 cX)).run Try.prog Y = .ok (.string Z) Y := fun Y hY => HZ.out ▸ run_string_rd Y 27 5 9 Try.underlying27 Try.underlying5 Try.underlying9 cX (hr.out.keep fun p hp => World.cell?_of_block (hY.block _ hp (by simp)))
                try go_simp
                refine hK _ _ ?_
                clear hK K
                refine wpAny_ready (rs := [4]) (by kernel_rfl) (by simp) ?_
                refine AllReady.cons rfl (fun K hK => ?_) ?_
                · go_simp
                  refine hK _ _ ?_
                  clear hK K
                  refine take_k (i := 7) (v := ?_) rfl (by kernel_rfl) (by kernel_rfl) (by kernel_rfl) (fun _ _ _ h => h) (Or.inl ⟨by rfl, ?_⟩) (fun K hK => ?_)
                  rotate_left 1
                  · (intro w; go_simp; try with_reducible rfl)
                  go_simp
                  refine hK _ _ ?_
                  clear hK K
                  refine take_k (i := 8) (v := ?_) rfl (by kernel_rfl) (by kernel_rfl) (by kernel_rfl) (fun _ _ _ h => h) (Or.inl ⟨by rfl, ?_⟩) (fun K hK => ?_)
                  rotate_left 1
                  · (intro w; go_simp; try with_reducible rfl)
                  go_simp
                  refine hK _ _ ?_
                  clear hK K
                  refine take_k (i := 9) (v := ?_) rfl (by kernel_rfl) (by kernel_rfl) (by kernel_rfl) (fun _ _ _ h => h) (Or.inl ⟨by rfl, ?_⟩) (fun K hK => ?_)
                  rotate_left 1
                  · (intro w; go_simp; try with_reducible rfl)
                  go_simp
                  refine hK _ _ ?_
                  clear hK K
                  refine wpAny_done (by kernel_rfl) ?_ _
                  go_wp2
                  go_ret
                  exact ⟨rfl, below_grown (only_trans HGW.out hgX)⟩
                exact AllReady.nil
              exact AllReady.nil
            exact AllReady.nil
  · go_enter Try.func5, Try.ntmps5
    go_wp2_with fail
    refine HS.out.mono ?_
    rintro e w1 ⟨rfl, h1⟩
    have HG1 := Lib.hid h1
    clear h1
    go_wp2_with fail
    have HW2 : Hid (OwnW w (w1.alloc (.cells #[.slice none 0 0, .int .i64 0] 33)) w1.heap.size (flat (l.take 0))) := Lib.hid ⟨only_trans HG1.out (World.grownBy_alloc _ _ _), HG1.out.size, _, wr_new w1⟩
    obtain ⟨w2, hw2⟩ : ∃ w2, w1.alloc (.cells #[.slice none 0 0, .int .i64 0] 33) = w2 := ⟨_, rfl⟩
    obtain ⟨gw, hgw⟩ : ∃ gw, w1.heap.size = gw := ⟨_, rfl⟩
    rw [hw2, hgw] at HW2
    rw [hw2, hgw]
    clear hw2 hgw HG1
    go_loopw [5] (fun i wr => ∃ k : Nat, k ≤ q ∧ i = .int .i64 k ∧ Hid (OwnW w wr gw (flat (l.take k)))) (fun i _ => q - (iv i).toNat)
    case atStart => exact ⟨0, by omega, rfl, HW2⟩
    case round =>
      obtain ⟨k, hk, rfl, HW⟩ := hrel
      obtain ⟨hg, h0, v, hwr⟩ := HW.out
      have HG := Lib.hid hg
      have H0 := Lib.hid h0
      have HWR := Lib.hid hwr
      clear hg h0 hwr
      by_cases hlt : k < q
      · obtain ⟨b, off, x, rfl, hx, hxe, hc⟩ := HCELL.out wr HG.out k hlt
        have hlk : k < l.length := by rw [HLEN.out]; exact hlt
        have HX := Lib.hid (hxe hlk)
        have ex : IntKind.u64.wrap (x : Int) = (x : Int) := by rw [IntKind.wrap_u64]; omega
        clear hxe
        go_wp2_with fail
        clear hc
        refine (put_int gw x x 8 rfl (by omega) (flat (l.take k)) (by rw [flat_len, List.length_take]; omega) v wr HWR.out).mono ?_
        rintro e w3 ⟨rfl, v3, hw3, _, hf3⟩
        rw [show inn 8 = 8 from rfl] at hw3
        have HW3 : Hid (OwnW w w3 gw (flat (l.take (k + 1)))) := Lib.hid (by
          rw [flat_take l k hlk, HX.out]
          exact OwnW.put HG.out H0.out HWR.out hf3 hw3)
        clear hw3 hf3
        go_wp2_with fail
        go_roundw
        case rel => exact ⟨k + 1, by omega, by go_num, HW3⟩
        case measure => simp [iv]; omega
      · obtain rfl : q = k := by omega
        have HB : Hid (OwnB w wr gw wr.heap.size (flat l)) := Lib.hid (by
          have := HW.out.below
          rwa [List.take_of_length_le (by rw [HLEN.out]; omega)] at this)
        obtain ⟨B, hB⟩ : ∃ B, wr.heap.size = B := ⟨_, rfl⟩
        rw [hB] at HB
        have HBS := Lib.hid hB
        clear HW hB HWR
        go_wp2_with fail
        refine (newq_calls w.heap.size _ _ A l (by omega) HLT.out wr (HR.out.keep fun p hp => World.cell?_of_block (HG.out.block _ hp (by simp))) HG.out.size).mono ?_
        rintro e w4 ⟨gx, Ax, rfl, x4, hx4, ax4, h4⟩
        have HG4 := Lib.hid (only_trans HG.out h4)
        have HB4 := Lib.hid (HB.out.grown h4)
        have HX4 := Lib.hid x4
        have HAX := Lib.hid ax4
        have HHX : Hid (B ≤ gx) := Lib.hid (by have := HBS.out; omega)
        clear x4 hx4 ax4 h4 HG HB
        go_wp2_with fail
        refine (newq_calls w.heap.size _ _ A l (by omega) HLT.out w4 (HR.out.keep fun p hp => World.cell?_of_block (HG4.out.block _ hp (by simp))) HG4.out.size).mono ?_
        rintro e w5 ⟨gy, Ay, rfl, y5, hy5, ay5, h5⟩
        have HG5 := Lib.hid (only_trans HG4.out h5)
        have HB5 := Lib.hid (HB4.out.grown h5)
        have HX5 := Lib.hid (HX4.out.grown h5)
        have HY5 := Lib.hid y5
        have HXY : Hid (Ap gx Ax gy Ay) := Lib.hid ⟨by have := HX4.out.rr.lt; omega, fun ad e => by have := (HAX.out ad e).2; have := HX4.out.rr.lt; omega, fun ad e => by have := (ay5 ad e).1; have := HX4.out.rr.lt; omega⟩
        have HHY : Hid (B ≤ gy) := Lib.hid (by have := HX4.out.rr.lt; have := HHX.out; omega)
        clear y5 hy5 ay5 h5 HX4 HB4 HG4 HAX
        go_wp2_with fail
        obtain ⟨wo, rfl⟩ : ∃ wo : World, wo = wr := ⟨_, rfl⟩
        go_loopw [8] (fun i wr => ∃ j : Nat, 2 * j ≤ q + 1 ∧ 2 * j ≤ 201 ∧ i = .int .i64 (2 * j : Nat) ∧ (2 * j ≤ q) ∧ Hid (OwnB w wr gw B (flat l)) ∧ Hid (Rq wr gx Ax l (16 * j)) ∧ Hid (Rq wr gy Ay l (16 * j))) (fun i _ => q - (iv i).toNat)
        case atStart => exact ⟨0, by omega, by omega, rfl, by omega, HB5, HX5, HY5⟩
        case round =>
          obtain ⟨j, hj, hj2, rfl, hj3, HB, HX, HY⟩ := hrel
          obtain ⟨i, hi⟩ : ∃ i, 2 * j = i := ⟨_, rfl⟩
          have ei : IntKind.i64.wrap ((i : Int) + 1) = (i : Int) + 1 := IntWalk.i64_in _ (by omega)
          rw [hi] at hj hj2 hj3
          rw [hi]
          by_cases hlt2 : i + 1 < q
          · obtain ⟨b, off, x, hA, hx, hxe, hc⟩ := HCELL.out wr HB.out.1 i (by omega)
            obtain ⟨b', off', y, hA', hy, hye, hc'⟩ := HCELL.out wr HB.out.1 (i + 1) (by omega)
            subst hA
            injection hA' with hA'
            injection hA' with e1 e2
            subst e1 e2
            have hil : i < l.length := by rw [HLEN.out]; omega
            have HXE := Lib.hid (hxe hil)
            have hil2 : i + 1 < l.length := by rw [HLEN.out]; omega
            have HYE := Lib.hid (hye hil2)
            have n1 := num8 l HLT.out i hil
            have n2 := num8 l HLT.out (i + 1) hil2
            have n3 := num16 l HLT.out i hil2
            rw [hxe hil] at n1 n3
            rw [hye hil2] at n2 n3
            have g1 : got l (16 * j) (inn 8) = (x, true, 8 * (i + 1)) := by
              rw [show inn 8 = 8 from rfl, show 16 * j = 8 * i by omega, got_yes l _ _ (by omega), n1, show 8 * i + 8 = 8 * (i + 1) by omega]
            have g2 : got l (8 * (i + 1)) (inn 8) = (y, true, 16 * (j + 1)) := by
              rw [show inn 8 = 8 from rfl, got_yes l _ _ (by omega), n2, show 8 * (i + 1) + 8 = 16 * (j + 1) by omega]
            have g3 : got l (16 * j) (inn 16) = (x * 256 + y, true, 16 * (j + 1)) := by
              rw [show inn 16 = 16 from rfl, show 16 * j = 8 * i by omega, got_yes l _ _ (by omega), n3, show 8 * i + 16 = 16 * (j + 1) by omega]
            have GG1 := Lib.hid g1
            have GG2 := Lib.hid g2
            have GG3 := Lib.hid g3
            have exw : IntKind.u64.wrap (x : Int) = (x : Int) := by rw [IntKind.wrap_u64]; omega
            have eyw : IntKind.u64.wrap (y : Int) = (y : Int) := by rw [IntKind.wrap_u64]; omega
            have esh : IntKind.u64.wrap ((x : Int) * 256) = ((x * 256 : Nat) : Int) := by rw [IntKind.wrap_u64]; omega
            have esh3 : (x : Int) * 256 = ((x * 256 : Nat) : Int) := by omega
            have eor := u64_or_byte x y hx hy
            obtain ⟨xs, hxs⟩ : ∃ xs, x * 256 = xs := ⟨_, rfl⟩
            rw [hxs] at esh esh3 eor
            obtain ⟨xy, hxy⟩ : ∃ xy, xs + y = xy := ⟨_, rfl⟩
            rw [hxy] at eor
            have GG4 : Hid (x * 256 + y = xy) := Lib.hid (by rw [hxs, hxy])
            have HII := Lib.hid hi
            have et : IntKind.i64.wrap ((i : Int) + 2) = (i : Int) + 2 := IntWalk.i64_in _ (by omega)
            clear g1 g2 g3 n1 n2 n3 hxe hye hxs hxy hi
            go_wp2_with fail
            refine (getq_calls gx Ax l (16 * j) 8 wr HX.out).mono ?_
            rintro e w6 ⟨rfl, x6, h6⟩
            rw [GG1.out] at x6 ⊢
            have HX6 := Lib.hid x6
            have HY6 := Lib.hid (HY.out.other h6 HXY.out.swap)
            have HB6 := Lib.hid (HB.out.read HHX.out h6)
            clear x6 h6
            dsimp only
            go_wp2_with fail
            refine (getq_calls gx Ax l (8 * (i + 1)) 8 w6 HX6.out).mono ?_
            rintro e w7 ⟨rfl, x7, h7⟩
            rw [GG2.out] at x7 ⊢
            have HX7 := Lib.hid x7
            have HY7 := Lib.hid (HY6.out.other h7 HXY.out.swap)
            have HB7 := Lib.hid (HB6.out.read HHX.out h7)
            clear x7 h7 HX6 HY6 HB6
            dsimp only
            go_wp2_with fail
            refine (getq_calls gy Ay l (16 * j) 16 w7 HY7.out).mono ?_
            rintro e w8 ⟨rfl, y8, h8⟩
            rw [GG3.out] at y8 ⊢
            have HY8 := Lib.hid y8
            have HX8 := Lib.hid (HX7.out.other h8 HXY.out)
            have hB8 := HB7.out.read HHY.out h8
            have HB8 := Lib.hid hB8
            rw [GG4.out]
            dsimp only
            clear y8 h8 HX7 HY7 HB7
            obtain ⟨b2, off2, x2, hA2, _, hxe2, hc2⟩ := HCELL.out w8 hB8.1 i (by omega)
            injection hA2 with hA2
            injection hA2 with e1 e2
            subst e1 e2
            obtain ⟨b3, off3, y3, hA3, _, hye3, hc3⟩ := HCELL.out w8 hB8.1 (i + 1) (by omega)
            injection hA3 with hA3
            injection hA3 with e1 e2
            subst e1 e2
            have q1 : x2 = x := (hxe2 hil).symm.trans HXE.out
            have q2 : y3 = y := (hye3 hil2).symm.trans HYE.out
            subst q1 q2
            have hc2' : w8.cell? ⟨b, off + i, none⟩ = some (.int .u8 (x2 : Int)) := hc2
            have hc3' : w8.cell? ⟨b, off + (i + 1), none⟩ = some (.int .u8 (y3 : Int)) := hc3
            have hx0 : ((x2 : Int) != x2) = false := by simp
            have hy0 : ((y3 : Int) != y3) = false := by simp
            have hz0 : ((xy : Int) != xy) = false := by simp
            clear hxe2 hye3 hB8
            go_wp2_with fail
            go_roundw
            case rel => exact ⟨j + 1, by have := HII.out; omega, by have := HII.out; omega, by have := HII.out; rw [show 2 * (j + 1) = i + 2 by omega]; rfl, by have := HII.out; omega, HB8, HX8, HY8⟩
            case measure => simp [iv]; omega
          · obtain ⟨hg, h0, _, v, hwr, _⟩ := HB.out
            have HGW := Lib.hid hg
            obtain ⟨Z, hZ⟩ : ∃ Z, str l = Z := ⟨_, rfl⟩
            have hlen : ((flat l).length + 7) / 8 = q := by have := HLEN.out; rw [flat_len]; omega
            have hpk : pk (flat l) q = l := by
              have := pk_flat l HLT.out
              rwa [HLEN.out] at this
            have BA : Hid (∀ X, wr.grownBy X none → Calls Try.prog 13 #[.pointer (some ⟨gw, 0, none⟩)] X fun e w' => ∃ A c, e = .returned (.slice A q c) ∧ Hid (Rd w' w'.heap.size A q (l.map bv)) ∧ X.grownBy w' none) := Lib.hid (fun X hX => by
              have := bytes_calls gw (flat l) (by rw [flat_len, HLEN.out]; omega) v X (hwr.grown hX)
              rw [hlen, hpk] at this
              refine this.mono ?_
              rintro e w' ⟨A, c, he, h1, h2⟩
              exact ⟨A, c, he, Lib.hid (rd_of_own h1), h2⟩)
            have hd : wr.grownBy wr.drew none := only_drawn (World.grownBy.refl wr none) 1
            have hs : wr.grownBy wr none := World.grownBy.refl wr none
            have ka : ∀ Y, wr.grownBy Y none → (Go.convert 27 9 (.slice A q cap)).run Try.prog Y = .ok (.string Z) Y := fun Y hY => hZ ▸ run_string_rd Y 27 5 9 Try.underlying27 Try.underlying5 Try.underlying9 cap (HR.out.keep fun p hp => World.cell?_of_block ((only_trans hg hY).block _ hp (by simp)))
            have HZ := Lib.hid hZ
            clear hg h0 hwr hlen hpk hZ hi HX HY HB
            go_wp2_with fail
            refine wp_region_any (by kernel_rfl) ?_
            try (change wpAny _ _ _ _ _ _ _ (World.drew _))
            refine take_k (i := 0) (v := ?_) rfl (by kernel_rfl) (by kernel_rfl) (by kernel_rfl) (fun _ _ _ h => h) (Or.inl ⟨by rfl, ?_⟩) (fun K hK => ?_)
            rotate_left 1
            · (intro w; go_simp; try with_reducible rfl)
            go_simp
            refine hK _ _ ?_
            clear hK K
            refine take_k (i := 1) (v := ?_) rfl (by kernel_rfl) (by kernel_rfl) (by kernel_rfl) (fun _ _ _ h => h) (Or.inl ⟨by rfl, ?_⟩) (fun K hK => ?_)
            rotate_left 1
            · (intro w; go_simp; try with_reducible rfl)
            go_simp
            refine hK _ _ ?_
            clear hK K
            refine take_k (i := 2) (v := ?_) rfl (by kernel_rfl) (by kernel_rfl) (by kernel_rfl) (fun _ _ _ h => h) (Or.inl ⟨by rfl, ?_⟩) (fun K hK => ?_)
            rotate_left 1
            · (intro w; go_simp; try with_reducible rfl)
            go_simp
            refine hK _ _ ?_
            clear hK K
            refine take_k (i := 5) (v := ?_) rfl (by kernel_rfl) (by kernel_rfl) (by kernel_rfl) (fun _ _ _ h => h) (Or.inl ⟨by rfl, ?_⟩) (fun K hK => ?_)
            rotate_left 1
            · (intro w; go_simp; try with_reducible rfl)
            go_simp
            refine hK _ _ ?_
            clear hK K
            refine wpAny_ready (rs := [3, 6]) (by kernel_rfl) (by simp) ?_
            refine AllReady.cons rfl (fun K hK => ?_) ?_
            · go_simp
              refine (BA.out _ hd).mono ?_
              rintro e wX ⟨AX, cX, rfl, hr, hgg⟩
              have hgX := only_trans hd hgg
              have hgr := World.grownBy.refl wX none
              have ks : ∀ Y, wX.grownBy Y none → (Go.convert 27 9 (.slice AX q cX)).run Try.prog Y = .ok (.string Z) Y := fun Y hY => HZ.out ▸ run_string_rd Y 27 5 9 Try.underlying27 Try.underlying5 Try.underlying9 cX (hr.out.keep fun p hp => World.cell?_of_block (hY.block _ hp (by simp)))
              try go_simp
              refine hK _ _ ?_
              clear hK K
              refine wpAny_ready (rs := [4, 6]) (by kernel_rfl) (by simp) ?_
              refine AllReady.cons rfl (fun K hK => ?_) ?_
              · go_simp
                refine hK _ _ ?_
                clear hK K
                refine wpAny_ready (rs := [6]) (by kernel_rfl) (by simp) ?_
                refine AllReady.cons rfl (fun K hK => ?_) ?_
                · go_simp
                  refine hK _ _ ?_
                  clear hK K
                  refine take_k (i := 7) (v := ?_) rfl (by kernel_rfl) (by kernel_rfl) (by kernel_rfl) (fun _ _ _ h => h) (Or.inl ⟨by rfl, ?_⟩) (fun K hK => ?_)
                  rotate_left 1
                  · (intro w; go_simp; try with_reducible rfl)
                  go_simp
                  refine hK _ _ ?_
                  clear hK K
                  refine take_k (i := 8) (v := ?_) rfl (by kernel_rfl) (by kernel_rfl) (by kernel_rfl) (fun _ _ _ h => h) (Or.inl ⟨by rfl, ?_⟩) (fun K hK => ?_)
                  rotate_left 1
                  · (intro w; go_simp; try with_reducible rfl)
                  go_simp
                  refine hK _ _ ?_
                  clear hK K
                  refine take_k (i := 9) (v := ?_) rfl (by kernel_rfl) (by kernel_rfl) (by kernel_rfl) (fun _ _ _ h => h) (Or.inl ⟨by rfl, ?_⟩) (fun K hK => ?_)
                  rotate_left 1
                  · (intro w; go_simp; try with_reducible rfl)
                  go_simp
                  refine hK _ _ ?_
                  clear hK K
                  refine wpAny_done (by kernel_rfl) ?_ _
                  go_wp2
                  go_ret
                  exact ⟨rfl, below_grown (only_trans HGW.out hgX)⟩
                exact AllReady.nil
              refine AllReady.cons rfl (fun K hK => ?_) ?_
              · go_simp
                refine hK _ _ ?_
                clear hK K
                refine wpAny_ready (rs := [4]) (by kernel_rfl) (by simp) ?_
                refine AllReady.cons rfl (fun K hK => ?_) ?_
                · go_simp
                  refine hK _ _ ?_
                  clear hK K
                  refine take_k (i := 7) (v := ?_) rfl (by kernel_rfl) (by kernel_rfl) (by kernel_rfl) (fun _ _ _ h => h) (Or.inl ⟨by rfl, ?_⟩) (fun K hK => ?_)
                  rotate_left 1
                  · (intro w; go_simp; try with_reducible rfl)
                  go_simp
                  refine hK _ _ ?_
                  clear hK K
                  refine take_k (i := 8) (v := ?_) rfl (by kernel_rfl) (by kernel_rfl) (by kernel_rfl) (fun _ _ _ h => h) (Or.inl ⟨by rfl, ?_⟩) (fun K hK => ?_)
                  rotate_left 1
                  · (intro w; go_simp; try with_reducible rfl)
                  go_simp
                  refine hK _ _ ?_
                  clear hK K
                  refine take_k (i := 9) (v := ?_) rfl (by kernel_rfl) (by kernel_rfl) (by kernel_rfl) (fun _ _ _ h => h) (Or.inl ⟨by rfl, ?_⟩) (fun K hK => ?_)
                  rotate_left 1
                  · (intro w; go_simp; try with_reducible rfl)
                  go_simp
                  refine hK _ _ ?_
                  clear hK K
                  refine wpAny_done (by kernel_rfl) ?_ _
                  go_wp2
                  go_ret
                  exact ⟨rfl, below_grown (only_trans HGW.out hgX)⟩
                exact AllReady.nil
              exact AllReady.nil
            refine AllReady.cons rfl (fun K hK => ?_) ?_
            · go_simp
              refine hK _ _ ?_
              clear hK K
              refine wpAny_ready (rs := [3]) (by kernel_rfl) (by simp) ?_
              refine AllReady.cons rfl (fun K hK => ?_) ?_
              · go_simp
                refine (BA.out _ hd).mono ?_
                rintro e wX ⟨AX, cX, rfl, hr, hgg⟩
                have hgX := only_trans hd hgg
                have hgr := World.grownBy.refl wX none
                have ks : ∀ Y, wX.grownBy Y none → (Go.convert 27 9 (.slice AX q cX)).run Try.prog Y = .ok (.string Z) Y := fun Y hY => HZ.out ▸ run_string_rd Y 27 5 9 Try.underlying27 Try.underlying5 Try.underlying9 cX (hr.out.keep fun p hp => World.cell?_of_block (hY.block _ hp (by simp)))
                try go_simp
                refine hK _ _ ?_
                clear hK K
                refine wpAny_ready (rs := [4]) (by kernel_rfl) (by simp) ?_
                refine AllReady.cons rfl (fun K hK => ?_) ?_
                · go_simp
                  refine hK _ _ ?_
                  clear hK K
                  refine take_k (i := 7) (v := ?_) rfl (by kernel_rfl) (by kernel_rfl) (by kernel_rfl) (fun _ _ _ h => h) (Or.inl ⟨by rfl, ?_⟩) (fun K hK => ?_)
                  rotate_left 1
                  · (intro w; go_simp; try with_reducible rfl)
                  go_simp
                  refine hK _ _ ?_
                  clear hK K
                  refine take_k (i := 8) (v := ?_) rfl (by kernel_rfl) (by kernel_rfl) (by kernel_rfl) (fun _ _ _ h => h) (Or.inl ⟨by rfl, ?_⟩) (fun K hK => ?_)
                  rotate_left 1
                  · (intro w; go_simp; try with_reducible rfl)
                  go_simp
                  refine hK _ _ ?_
                  clear hK K
                  refine take_k (i := 9) (v := ?_) rfl (by kernel_rfl) (by kernel_rfl) (by kernel_rfl) (fun _ _ _ h => h) (Or.inl ⟨by rfl, ?_⟩) (fun K hK => ?_)
                  rotate_left 1
                  · (intro w; go_simp; try with_reducible rfl)
                  go_simp
                  refine hK _ _ ?_
                  clear hK K
                  refine wpAny_done (by kernel_rfl) ?_ _
                  go_wp2
                  go_ret
                  exact ⟨rfl, below_grown (only_trans HGW.out hgX)⟩
                exact AllReady.nil
              exact AllReady.nil
            exact AllReady.nil
end Go.Proofs.Ytldgldibkibknaa
