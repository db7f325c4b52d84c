/-
  The law BitsBack, walked.
-/
import Derived.Test.YtldgldibkibknaaCount
namespace Go.Proofs.Ytldgldibkibknaa
open Go.RowKit

theorem pbs_app (l : List Pt) (k : Nat) (p : Pt) (h : l[k]? = some p) : pbs l = pbs (l.take k) ++ pb p ++ pbs (l.drop (k + 1)) := by
  rw [← pbs_take l k p h]
  unfold pbs
  rw [← List.flatMap_append, List.take_append_drop]
/-- What was put is got. -/
theorem back_got (l : List Pt) (k : Nat) (p : Pt) (h : l[k]? = some p) (L : List Bool) (hL : pbs l = L) (q : Nat) (hq : (L.length + 7) / 8 = q) (a : Nat) (ha : (pbs (l.take k)).length = a) :
    got (pk L q) a (inn p.b) = (uw p.n % 2 ^ inn p.b, true, a + inn p.b) := by
  have e := pbs_app l k p h
  rw [hL] at e
  have hlen : a + inn p.b ≤ L.length := by
    have := congrArg List.length e
    rw [List.length_append, List.length_append, ha] at this
    have h2 : (pb p).length = inn p.b := by unfold pb; rw [hb_len]
    omega
  rw [got_yes _ _ _ (by rw [pk_len]; omega), num_pk _ _ _ _ (by omega)]
  have := bnum_all (pbs (l.take k)) (pbs (l.drop (k + 1))) (uw p.n) (inn p.b)
  rw [ha] at this
  rw [e]
  unfold pb
  rw [this]
theorem pbs_take_take (l : List Pt) (k m : Nat) (h : k ≤ m) : (l.take m).take k = l.take k := by rw [List.take_take, Nat.min_eq_left h]
/-- Behind all there is a filling. -/
theorem back_rest (L : List Bool) (q : Nat) (hq : (L.length + 7) / 8 = q) : restB (pk L q) L.length = true := by
  unfold restB
  rw [pk_len, Bool.and_eq_true]
  refine ⟨?_, by simp; omega⟩
  rw [List.all_eq_true]
  intro i hi
  have hi := List.mem_range.1 hi
  rw [obit_pk _ _ _ (by omega), bi_out _ _ (by omega)]; rfl
theorem back_more (L : List Bool) (q : Nat) (hq : (L.length + 7) / 8 = q) : got (pk L q) L.length 8 = (0, false, 8 * q) := by
  unfold got
  rw [pk_len, if_neg (by omega)]
/-- The lowest n bits, by two shifts. -/
theorem low_u (U n b : Nat) (hb : 64 - n = b) (hn : n ≤ 64) : IntKind.u64.wrap ((U : Int) * 2 ^ b) / 2 ^ b = ((U % 2 ^ n : Nat) : Int) := by
  have hp : 2 ^ n * 2 ^ b = 18446744073709551616 := by rw [← Nat.pow_add, show n + b = 64 by omega]
  have e : ((U : Int) * 2 ^ b) = ((U * 2 ^ b : Nat) : Int) := by simp
  have e2 : ((2 : Int) ^ b) = ((2 ^ b : Nat) : Int) := by simp
  have h0 : 0 < 2 ^ b := Nat.two_pow_pos b
  have em : U * 2 ^ b % 18446744073709551616 = U % 2 ^ n * 2 ^ b := by rw [← hp, Nat.mul_mod_mul_right]
  rw [e, e2, IntKind.wrap_u64]
  have : ((U * 2 ^ b : Nat) : Int) % 18446744073709551616 = ((U % 2 ^ n * 2 ^ b : Nat) : Int) := by rw [← em]; omega
  rw [this, Int.natCast_mul, Int.mul_ediv_cancel _ (by omega)]
theorem low_s (y : Int) (n b : Nat) (hb : 64 - n = b) (hn : n ≤ 64) : IntKind.i64.wrap (y * 2 ^ b) / 2 ^ b = sgn (uw y % 2 ^ n) n := by
  have h1 := sgn_walk (uw y % 2 ^ n) n hn (Nat.mod_lt _ (Nat.two_pow_pos n))
  change _ = sgn (uw y % 2 ^ n) n at h1
  rw [hb] at h1
  rw [← h1]
  congr 1
  have hp : 2 ^ n * 2 ^ b = 18446744073709551616 := by rw [← Nat.pow_add, show n + b = 64 by omega]
  have em : uw y * 2 ^ b % 18446744073709551616 = uw y % 2 ^ n * 2 ^ b := by rw [← hp, Nat.mul_mod_mul_right]
  have e : (((uw y % 2 ^ n : Nat) : Int) * 2 ^ b) = ((uw y % 2 ^ n * 2 ^ b : Nat) : Int) := by simp
  have hy : y = 18446744073709551616 * (y / 18446744073709551616) + (uw y : Int) := by unfold uw; omega
  have e3 : y * 2 ^ b = 18446744073709551616 * (y / 18446744073709551616 * 2 ^ b) + ((uw y * 2 ^ b : Nat) : Int) := by
    have e4 : ((uw y * 2 ^ b : Nat) : Int) = (uw y : Int) * 2 ^ b := by simp
    rw [e4, ← Int.mul_assoc, ← Int.add_mul, ← hy]
  rw [e, e3, ← em, IntKind.wrap_u64, IntKind.wrap_i64, IntKind.wrap_i64]
  generalize y / 18446744073709551616 * 2 ^ b = X
  generalize uw y * 2 ^ b = Y
  omega

set_option maxRecDepth 100000 in
set_option maxHeartbeats 4000000 in
theorem back (A : Option Addr) (n cap : Nat) (l : List Pt) (w : World) (hn : n ≤ 9223372036854775807) (hR : Rp w w.heap.size A n l) :
    Calls Try.prog 9 #[.slice A n cap] w fun e w' => e = .returned (.bool true) ∧ Below w.heap.size w w' := by
  have HR := Lib.hid hR
  have HS := Lib.hid (shown_calls w)
  clear hR
  obtain ⟨L, hL⟩ : ∃ L, pbs (l.take 100) = L := ⟨_, rfl⟩
  have HLL : Hid (L.length ≤ 6400) := Lib.hid (by rw [← hL]; have := pbs_take_le l 100; omega)
  have HL := Lib.hid hL
  go_enter Try.func9, Try.ntmps9
  go_wp2_with fail
  refine HS.out.mono ?_
  rintro e w1 ⟨rfl, h1⟩
  have HG1 := Lib.hid h1
  clear h1
  go_wp2_with fail
  have HWC := write_calls A n cap l w.heap.size w1 hn (HR.out.grown HG1.out (Nat.le_refl _) (by simp)) HG1.out.size
  rw [hL] at HWC
  refine HWC.mono ?_
  clear HWC hL
  rintro e w2 ⟨g, v, rfl, h2, hg, hgr⟩
  have HG2 := Lib.hid (only_trans HG1.out hgr)
  have HW2 := Lib.hid h2
  clear h2 hg hgr HG1 HS
  go_wp2_with fail
  obtain ⟨q, hq⟩ : ∃ q, (L.length + 7) / 8 = q := ⟨_, rfl⟩
  obtain ⟨P, hP⟩ : ∃ P, pk L q = P := ⟨_, rfl⟩
  have HP8 : Hid (∀ x ∈ P, x < 256) := Lib.hid (by
    rw [← hP]; intro x hx; obtain ⟨i, _, rfl⟩ := List.mem_map.1 hx; exact by8_lt L i)
  have hq801 : q ≤ 801 := by have := HLL.out; omega
  have HGOT : Hid (∀ (k : Nat) (p : Pt) (a : Nat), k < 100 → l[k]? = some p → (pbs (l.take k)).length = a → got P a (inn p.b) = (uw p.n % 2 ^ inn p.b, true, a + inn p.b)) := Lib.hid (fun k p a hk hp ha => by
    rw [← hP]
    exact back_got (l.take 100) k p (by rw [List.getElem?_take_of_lt hk]; exact hp) L HL.out q hq a (by rw [List.take_take, Nat.min_eq_left (by omega)]; exact ha))
  have HREST : Hid (restB P L.length = true) := Lib.hid (by rw [← hP]; exact back_rest L q hq)
  have HMORE : Hid (got P L.length 8 = (0, false, 8 * q)) := Lib.hid (by rw [← hP]; exact back_more L q hq)
  have HBY := bytes_calls g L (by have := HLL.out; omega) v w2 HW2.out
  rw [hq, hP] at HBY
  refine HBY.mono ?_
  clear HBY hq hP
  rintro e w3 ⟨A3, c3, rfl, h3, hg3⟩
  have HG3 := Lib.hid (only_trans HG2.out hg3)
  have HO3 := Lib.hid (rd_of_own h3)
  clear hg3 h3
  go_wp2_with fail
  refine (newReader_calls _ q c3 A3 P (by omega) HP8.out w3 HO3.out (Nat.le_refl _)).mono ?_
  rintro e w4 ⟨gr, rfl, h4, hgr, hg4⟩
  have HGR : Hid (w.heap.size ≤ gr) := Lib.hid (by have := HG3.out.size; omega)
  have HG4 := Lib.hid (only_trans HG3.out hg4)
  have HR4 := Lib.hid h4
  clear h4 hgr hg4 HG3 HO3 HW2 HG2
  go_wp2_with fail
  go_loopw [7] (fun i wr => ∃ (k a : Nat), k ≤ n ∧ k ≤ 100 ∧ i = .int .i64 k ∧ Hid ((pbs (l.take k)).length = a) ∧ Hid (Rr wr gr P a) ∧ Hid (w.grownBy wr none)) (fun i _ => n - (iv i).toNat)
  case atStart => exact ⟨0, 0, by omega, by omega, rfl, Lib.hid rfl, HR4, HG4⟩
  case round =>
    obtain ⟨k, a, hk, hk100, rfl, HN, HRR, HG⟩ := hrel
    by_cases hlt : k < n ∧ k < 100
    · obtain ⟨hlt, hlt100⟩ := hlt
      obtain ⟨b, off, p, rfl, hbB, hx, hr⟩ := HR.out.at_ Pt.cl_len hlt
      obtain ⟨c0, c1, c2⟩ := pt_cells (w := wr) (b := b) (o := off + k * 3) (p := p) (fun j u hu => HG.out.cell (hr j u hu) (by simp))
      have HN2 : Hid ((pbs (l.take (k + 1))).length = a + inn p.b) := Lib.hid (by rw [pbs_len_take l k p hx, HN.out])
      have HG' := Lib.hid (HGOT.out k p a hlt100 hx HN.out)
      have hi64 := inn_le p.b
      have HCC := Lib.hid hr
      obtain ⟨pn, pbb, ps⟩ := p
      dsimp only at HN2 HG' hi64 c0 c1 c2
      clear hr hx hbB
      obtain ⟨z, hz⟩ : ∃ z, inn pbb = z := ⟨_, rfl⟩
      obtain ⟨U, hU⟩ : ∃ U, uw pn = U := ⟨_, rfl⟩
      have eU : IntKind.u64.wrap pn = (U : Int) := by rw [← hU]; exact uw_wrap pn
      have hGET := fun wr h => get_calls gr P a pbb wr h
      have hSGN := fun wr h => signR_calls gr P a pbb wr h
      rw [hz, hU] at HG'
      rw [hz] at HN2 hi64
      simp only [hz, HG'.out] at hGET hSGN
      obtain ⟨r, hr⟩ : ∃ r, U % 2 ^ z = r := ⟨_, rfl⟩
      obtain ⟨s, hs⟩ : ∃ s, sgn r z = s := ⟨_, rfl⟩
      rw [hr] at hGET hSGN
      simp only [hs] at hSGN
      have HGET := Lib.hid hGET
      have HSGN := Lib.hid hSGN
      obtain ⟨m, hm⟩ : ∃ m, 64 - z = m := ⟨_, rfl⟩
      have hrl : r < 18446744073709551616 := by rw [← hr, ← hU]; exact Nat.lt_of_le_of_lt (Nat.mod_le _ _) (uw_lt pn)
      have HU := Lib.hid hU
      have HRR0 := Lib.hid hr
      have HSS0 := Lib.hid hs
      have hm64 : m ≤ 64 := by omega
      have hcase : (pbb < 0 ∧ z = 0) ∨ (pbb = 0 ∧ z = 0) ∨ (64 < pbb ∧ z = 64) ∨ (pbb = 64 ∧ z = 64) ∨ (0 < pbb ∧ pbb < 64 ∧ pbb = z) := by rw [← hz]; unfold inn; omega
      clear hGET hSGN hz hU hr hs
      rcases hcase with ⟨hc, hzz⟩ | ⟨hc, hzz⟩ | ⟨hc, hzz⟩ | ⟨hc, hzz⟩ | ⟨hc, hc2, hzz⟩
      · subst hzz
        clear hm
        have hu0 : IntKind.u64.wrap ((U : Int) * 18446744073709551616) / 18446744073709551616 = 0 := by rw [IntKind.wrap_u64]; omega
        have hi0 : IntKind.i64.wrap (pn * 18446744073709551616) / 18446744073709551616 = 0 := by rw [IntKind.wrap_i64]; omega
        have hi0b : wrap64 (pn * 18446744073709551616) / 18446744073709551616 = 0 := by rw [← hi0, IntWalk.i64_left]
        have hr0 : r = 0 := by rw [← HRR0.out]; exact Nat.mod_one _
        have hs0 : s = 0 := by rw [← HSS0.out, hr0]; decide
        subst hr0
        subst hs0
        rcases ps with _ | _
        · go_wp2_with fail
          refine ((HGET).out _ HRR.out).mono ?_
          rintro e w5 ⟨rfl, h5, hg5⟩
          have HG5 := Lib.hid (grown_over HG.out hg5 HGR.out)
          have HR5 := Lib.hid h5
          clear h5 hg5 c0 c1 c2
          obtain ⟨c0, c1, c2⟩ := pt_cells (w := w5) (b := b) (o := off + k * 3) (p := ⟨pn, pbb, false⟩) (fun j u hu => HG5.out.cell (HCC.out j u hu) (by simp))
          dsimp only at c0 c1 c2 ⊢
          go_wp2_with fail
          all_goals
            go_roundw
            case rel => exact ⟨k + 1, _, by omega, by omega, by go_num, HN2, HR5, HG5⟩
            case measure => simp [iv]; omega
        · go_wp2_with fail
          refine ((HSGN).out _ HRR.out).mono ?_
          rintro e w5 ⟨rfl, h5, hg5⟩
          have HG5 := Lib.hid (grown_over HG.out hg5 HGR.out)
          have HR5 := Lib.hid h5
          clear h5 hg5 c0 c1 c2
          obtain ⟨c0, c1, c2⟩ := pt_cells (w := w5) (b := b) (o := off + k * 3) (p := ⟨pn, pbb, true⟩) (fun j u hu => HG5.out.cell (HCC.out j u hu) (by simp))
          dsimp only at c0 c1 c2 ⊢
          go_wp2_with fail
          all_goals
            go_roundw
            case rel => exact ⟨k + 1, _, by omega, by omega, by go_num, HN2, HR5, HG5⟩
            case measure => simp [iv]; omega
      · subst hzz
        subst hc
        clear hm
        have hu0 : IntKind.u64.wrap ((U : Int) * 18446744073709551616) / 18446744073709551616 = 0 := by rw [IntKind.wrap_u64]; omega
        have hi0 : IntKind.i64.wrap (pn * 18446744073709551616) / 18446744073709551616 = 0 := by rw [IntKind.wrap_i64]; omega
        have hi0b : wrap64 (pn * 18446744073709551616) / 18446744073709551616 = 0 := by rw [← hi0, IntWalk.i64_left]
        have hr0 : r = 0 := by rw [← HRR0.out]; exact Nat.mod_one _
        have hs0 : s = 0 := by rw [← HSS0.out, hr0]; decide
        subst hr0
        subst hs0
        rcases ps with _ | _
        · go_wp2_with fail
          refine ((HGET).out _ HRR.out).mono ?_
          rintro e w5 ⟨rfl, h5, hg5⟩
          have HG5 := Lib.hid (grown_over HG.out hg5 HGR.out)
          have HR5 := Lib.hid h5
          clear h5 hg5 c0 c1 c2
          obtain ⟨c0, c1, c2⟩ := pt_cells (w := w5) (b := b) (o := off + k * 3) (p := ⟨pn, 0, false⟩) (fun j u hu => HG5.out.cell (HCC.out j u hu) (by simp))
          dsimp only at c0 c1 c2 ⊢
          go_wp2_with fail
          go_roundw
          case rel => exact ⟨k + 1, _, by omega, by omega, by go_num, HN2, HR5, HG5⟩
          case measure => simp [iv]; omega
        · go_wp2_with fail
          refine ((HSGN).out _ HRR.out).mono ?_
          rintro e w5 ⟨rfl, h5, hg5⟩
          have HG5 := Lib.hid (grown_over HG.out hg5 HGR.out)
          have HR5 := Lib.hid h5
          clear h5 hg5 c0 c1 c2
          obtain ⟨c0, c1, c2⟩ := pt_cells (w := w5) (b := b) (o := off + k * 3) (p := ⟨pn, 0, true⟩) (fun j u hu => HG5.out.cell (HCC.out j u hu) (by simp))
          dsimp only at c0 c1 c2 ⊢
          go_wp2_with fail
          go_roundw
          case rel => exact ⟨k + 1, _, by omega, by omega, by go_num, HN2, HR5, HG5⟩
          case measure => simp [iv]; omega
      · subst hzz
        clear hm
        have hr0 : r = U := by rw [← HRR0.out]; exact Nat.mod_eq_of_lt (by rw [← HU.out]; exact uw_lt pn)
        subst hr0
        have hls4 : wrap64 pn = s := by
          have := low_s pn 64 0 rfl (Nat.le_refl _)
          rw [HU.out, HRR0.out, HSS0.out] at this
          rw [← this, IntWalk.i64_left]; simp
        have hru4 : IntKind.u64.wrap (r : Int) = (r : Int) := by rw [IntKind.wrap_u64]; have := uw_lt pn; have := HU.out; omega
        rcases ps with _ | _
        · go_wp2_with fail
          refine ((HGET).out _ HRR.out).mono ?_
          rintro e w5 ⟨rfl, h5, hg5⟩
          have HG5 := Lib.hid (grown_over HG.out hg5 HGR.out)
          have HR5 := Lib.hid h5
          clear h5 hg5 c0 c1 c2
          obtain ⟨c0, c1, c2⟩ := pt_cells (w := w5) (b := b) (o := off + k * 3) (p := ⟨pn, pbb, false⟩) (fun j u hu => HG5.out.cell (HCC.out j u hu) (by simp))
          dsimp only at c0 c1 c2 ⊢
          go_wp2_with fail
          all_goals
            go_roundw
            case rel => exact ⟨k + 1, _, by omega, by omega, by go_num, HN2, HR5, HG5⟩
            case measure => simp [iv]; omega
        · go_wp2_with fail
          refine ((HSGN).out _ HRR.out).mono ?_
          rintro e w5 ⟨rfl, h5, hg5⟩
          have HG5 := Lib.hid (grown_over HG.out hg5 HGR.out)
          have HR5 := Lib.hid h5
          clear h5 hg5 c0 c1 c2
          obtain ⟨c0, c1, c2⟩ := pt_cells (w := w5) (b := b) (o := off + k * 3) (p := ⟨pn, pbb, true⟩) (fun j u hu => HG5.out.cell (HCC.out j u hu) (by simp))
          dsimp only at c0 c1 c2 ⊢
          go_wp2_with fail
          all_goals
            go_roundw
            case rel => exact ⟨k + 1, _, by omega, by omega, by go_num, HN2, HR5, HG5⟩
            case measure => simp [iv]; omega
      · subst hzz
        subst hc
        clear hm
        have hr0 : r = U := by rw [← HRR0.out]; exact Nat.mod_eq_of_lt (by rw [← HU.out]; exact uw_lt pn)
        subst hr0
        have hls4 : wrap64 pn = s := by
          have := low_s pn 64 0 rfl (Nat.le_refl _)
          rw [HU.out, HRR0.out, HSS0.out] at this
          rw [← this, IntWalk.i64_left]; simp
        have hru4 : IntKind.u64.wrap (r : Int) = (r : Int) := by rw [IntKind.wrap_u64]; have := uw_lt pn; have := HU.out; omega
        rcases ps with _ | _
        · go_wp2_with fail
          refine ((HGET).out _ HRR.out).mono ?_
          rintro e w5 ⟨rfl, h5, hg5⟩
          have HG5 := Lib.hid (grown_over HG.out hg5 HGR.out)
          have HR5 := Lib.hid h5
          clear h5 hg5 c0 c1 c2
          obtain ⟨c0, c1, c2⟩ := pt_cells (w := w5) (b := b) (o := off + k * 3) (p := ⟨pn, 64, false⟩) (fun j u hu => HG5.out.cell (HCC.out j u hu) (by simp))
          dsimp only at c0 c1 c2 ⊢
          go_wp2_with fail
          go_roundw
          case rel => exact ⟨k + 1, _, by omega, by omega, by go_num, HN2, HR5, HG5⟩
          case measure => simp [iv]; omega
        · go_wp2_with fail
          refine ((HSGN).out _ HRR.out).mono ?_
          rintro e w5 ⟨rfl, h5, hg5⟩
          have HG5 := Lib.hid (grown_over HG.out hg5 HGR.out)
          have HR5 := Lib.hid h5
          clear h5 hg5 c0 c1 c2
          obtain ⟨c0, c1, c2⟩ := pt_cells (w := w5) (b := b) (o := off + k * 3) (p := ⟨pn, 64, true⟩) (fun j u hu => HG5.out.cell (HCC.out j u hu) (by simp))
          dsimp only at c0 c1 c2 ⊢
          go_wp2_with fail
          go_roundw
          case rel => exact ⟨k + 1, _, by omega, by omega, by go_num, HN2, HR5, HG5⟩
          case measure => simp [iv]; omega
      · subst hzz
        have e64 : IntKind.i64.wrap (64 - (z : Int)) = (m : Int) := by rw [IntWalk.i64_in _ (by omega)]; omega
        have e64b : 64 - (z : Int) = (m : Int) := by omega
        have emu : IntKind.u64.wrap (m : Int) = (m : Int) := by rw [IntKind.wrap_u64]; omega
        have hlu := low_u U z m hm hi64
        have hls := low_s pn z m hm hi64
        rw [HRR0.out] at hlu
        rw [HU.out, HRR0.out, HSS0.out] at hls
        have hlu1 : IntKind.u64.wrap ((U : Int) * 2 ^ min m 64) / 2 ^ min m 64 = (r : Int) := by rw [Nat.min_eq_left (by omega)]; exact hlu
        have hls1 : IntKind.i64.wrap (pn * 2 ^ min m 64) / 2 ^ min m 64 = s := by rw [Nat.min_eq_left (by omega)]; exact hls
        have hlu2 : IntKind.u64.wrap ((U : Int) * 2 ^ m) / 2 ^ min m 64 = (r : Int) := by rw [Nat.min_eq_left (by omega)]; exact hlu
        have hls2 : IntKind.i64.wrap (pn * 2 ^ m) / 2 ^ min m 64 = s := by rw [Nat.min_eq_left (by omega)]; exact hls
        have hls3 : wrap64 (pn * 2 ^ m) / 2 ^ m = s := by rw [← hls, IntWalk.i64_left]
        clear hm
        rcases ps with _ | _
        · go_wp2_with fail
          refine ((HGET).out _ HRR.out).mono ?_
          rintro e w5 ⟨rfl, h5, hg5⟩
          have HG5 := Lib.hid (grown_over HG.out hg5 HGR.out)
          have HR5 := Lib.hid h5
          clear h5 hg5 c0 c1 c2
          obtain ⟨c0, c1, c2⟩ := pt_cells (w := w5) (b := b) (o := off + k * 3) (p := ⟨pn, z, false⟩) (fun j u hu => HG5.out.cell (HCC.out j u hu) (by simp))
          dsimp only at c0 c1 c2 ⊢
          go_wp2_with fail
          go_roundw
          case rel => exact ⟨k + 1, _, by omega, by omega, by go_num, HN2, HR5, HG5⟩
          case measure => simp [iv]; omega
        · go_wp2_with fail
          refine ((HSGN).out _ HRR.out).mono ?_
          rintro e w5 ⟨rfl, h5, hg5⟩
          have HG5 := Lib.hid (grown_over HG.out hg5 HGR.out)
          have HR5 := Lib.hid h5
          clear h5 hg5 c0 c1 c2
          obtain ⟨c0, c1, c2⟩ := pt_cells (w := w5) (b := b) (o := off + k * 3) (p := ⟨pn, z, true⟩) (fun j u hu => HG5.out.cell (HCC.out j u hu) (by simp))
          dsimp only at c0 c1 c2 ⊢
          go_wp2_with fail
          go_roundw
          case rel => exact ⟨k + 1, _, by omega, by omega, by go_num, HN2, HR5, HG5⟩
          case measure => simp [iv]; omega
    · have HNL : Hid (L.length = a) := Lib.hid (by
        rw [← HN.out, ← HL.out]
        rcases (show k = n ∨ k = 100 by omega) with h | h
        · have hl := HR.out.1
          rw [List.take_of_length_le (by omega), List.take_of_length_le (by omega)]
        · rw [h])
      rw [HNL.out] at HREST HMORE
      rcases (show ¬ k < n ∨ (k < n ∧ ¬ k < 100) by omega) with h | ⟨h, h2⟩
      all_goals
        clear hlt
        go_wp2_with fail
        refine (rest_calls gr P a wr HRR.out).mono ?_
        rintro e w5 ⟨rfl, m5, rfl⟩
        rw [HREST.out]
        go_wp2_with fail
        refine (get_calls gr P a 8 _ (HRR.out.drewN m5)).mono ?_
        rintro e w6 ⟨rfl, h6, hg6⟩
        rw [show inn 8 = 8 from rfl, HMORE.out] at h6 ⊢
        have HG6 := Lib.hid (grown_over (grown_drawn HG.out m5) hg6 HGR.out)
        clear h6 hg6
        dsimp only
        go_wp2_with fail
        go_ret
        exact ⟨rfl, below_grown HG6.out⟩
end Go.Proofs.Ytldgldibkibknaa
