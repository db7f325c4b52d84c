/-
  The law BitsCount, walked.
-/
import Derived.Test.YtldgldibkibknaaPuts
namespace Go.Proofs.Ytldgldibkibknaa
open Go.RowKit

theorem pbs_len_take (l : List Pt) (k : Nat) (p : Pt) (h : l[k]? = some p) : (pbs (l.take (k + 1))).length = (pbs (l.take k)).length + inn p.b := by
  rw [pbs_take l k p h, List.length_append]
  congr 1
  unfold pb
  rw [hb_len]

set_option maxRecDepth 100000 in
set_option maxHeartbeats 4000000 in
theorem count (A : Option Addr) (n cap : Nat) (l : List Pt) (w : World) (hn : n ≤ 9223372036854775807) (hR : Rp w w.heap.size A n l) :
    Calls Try.prog 6 #[.slice A n cap] w fun e w' => e = .returned (.bool true) ∧ Below w.heap.size w w' := by
  have HR := Lib.hid hR
  have HS := Lib.hid (shown_calls w)
  clear hR
  obtain ⟨L, hL⟩ : ∃ L, pbs (l.take 100) = L := ⟨_, rfl⟩
  have HLL : Hid (L.length ≤ 6400) := Lib.hid (by rw [← hL]; have := pbs_take_le l 100; omega)
  have HL := Lib.hid hL
  go_enter Try.func6, Try.ntmps6
  go_wp2_with fail
  refine HS.out.mono ?_
  rintro e w1 ⟨rfl, h1⟩
  have HG1 := Lib.hid h1
  clear h1
  go_wp2_with fail
  have HWC := write_calls A n cap l w.heap.size w1 hn (HR.out.grown HG1.out (Nat.le_refl _) (by simp)) HG1.out.size
  rw [hL] at HWC
  refine HWC.mono ?_
  clear HWC hL
  rintro e w2 ⟨g, v, rfl, h2, hg, hgr⟩
  have HG2 := Lib.hid (only_trans HG1.out hgr)
  have HW2 := Lib.hid h2
  clear h2 hg hgr HG1 HS
  go_wp2_with fail
  go_loopw [6, 7] (fun nv i wr => ∃ (k N : Nat), k ≤ n ∧ k ≤ 100 ∧ nv = .int .i64 N ∧ i = .int .i64 k ∧ Hid ((pbs (l.take k)).length = N) ∧ wr = w2) (fun _ i _ => n - (iv i).toNat)
  case atStart => exact ⟨0, 0, by omega, by omega, rfl, rfl, Lib.hid rfl, rfl⟩
  case round =>
    obtain ⟨k, N, hk, hk100, rfl, rfl, HN, rfl⟩ := hrel
    by_cases hlt : k < n ∧ k < 100
    · obtain ⟨hlt, hlt100⟩ := hlt
      obtain ⟨b, off, p, rfl, hbB, hx, hr⟩ := HR.out.at_ Pt.cl_len hlt
      obtain ⟨c0, c1, c2⟩ := pt_cells (w := wr) (b := b) (o := off + k * 3) (p := p) (fun j u hu => HG2.out.cell (hr j u hu) (by simp))
      have HN2 : Hid ((pbs (l.take (k + 1))).length = N + inn p.b) := Lib.hid (by rw [pbs_len_take l k p hx, HN.out])
      have hN : N ≤ 6400 := by have := pbs_take_le l k; have := HN.out; omega
      have HI : Hid (((inn p.b : Nat) : Int) = max 0 (min p.b 64)) := Lib.hid (by unfold inn; omega)
      have hi64 := inn_le p.b
      obtain ⟨pn, pbb, ps⟩ := p
      have hwN : ∀ x : Int, 0 ≤ x → x ≤ 64 → IntKind.i64.wrap ((N : Int) + x) = (N : Int) + x := fun x h0 h1 => IntWalk.i64_in _ (by omega)
      clear hr hx hbB
      go_wp2_with fail
      have hI := HI.out
      go_roundw
      case rel => exact ⟨k + 1, N + inn pbb, by omega, by omega, by congr 1; dsimp only at hI; split at * <;> split at * <;> omega, by go_num, HN2, trivial⟩
      case measure => simp [iv]; omega
    · have HNL : Hid (L.length = N) := Lib.hid (by
        rw [← HN.out, ← HL.out]
        rcases (show k = n ∨ k = 100 by omega) with h | h
        · have hl := HR.out.1
          rw [List.take_of_length_le (by omega), List.take_of_length_le (by omega)]
        · rw [h])
      rcases (show ¬ k < n ∨ (k < n ∧ ¬ k < 100) by omega) with h | ⟨h, h2⟩
      all_goals
        clear hlt
        go_wp2_with fail
        obtain ⟨q, hq⟩ : ∃ q, (L.length + 7) / 8 = q := ⟨_, rfl⟩
        obtain ⟨P, hP⟩ : ∃ P, pk L q = P := ⟨_, rfl⟩
        have HPL : Hid (P.length = q) := Lib.hid (by rw [← hP, pk_len])
        have HP8 : Hid (∀ x ∈ P, x < 256) := Lib.hid (by
          rw [← hP]; intro x hx; obtain ⟨i, _, rfl⟩ := List.mem_map.1 hx; exact by8_lt L i)
        have hN64 : N ≤ 6400 := by have := HLL.out; have := HNL.out; omega
        have hq8 : (N + 7) / 8 = q := by rw [← hq, HNL.out]
        have HREST : Hid (restB P (8 * q) = true) := Lib.hid (by unfold restB; rw [HPL.out]; simp)
        have HBY := bytes_calls g L (by have := HLL.out; omega) v wr HW2.out
        rw [hq, hP] at HBY
        refine HBY.mono ?_
        clear HBY hq hP
        rintro e w3 ⟨A3, c3, rfl, h3, hg3⟩
        have HG3 := Lib.hid (only_trans HG2.out hg3)
        have HO3 := Lib.hid (rd_of_own h3)
        clear hg3 h3
        have e7 : IntKind.i64.wrap ((N : Int) + 7) = (N : Int) + 7 := IntWalk.i64_in _ (by omega)
        have eq8 : ((N : Int) + 7).tdiv 8 = (q : Int) := by rw [Int.tdiv_eq_ediv_of_nonneg (by omega)]; omega
        have eqw : IntKind.i64.wrap (q : Int) = (q : Int) := IntWalk.i64_in _ (by omega)
        have hq801 : q ≤ 801 := by omega
        go_wp2_with fail
        refine (newReader_calls _ q c3 A3 P (by omega) HP8.out w3 HO3.out (Nat.le_refl _)).mono ?_
        rintro e w4 ⟨gr, rfl, h4, hgr, hg4⟩
        have HGR : Hid (w.heap.size ≤ gr) := Lib.hid (by have := HG3.out.size; omega)
        have HG4 := Lib.hid (only_trans HG3.out hg4)
        have HR4 := Lib.hid h4
        clear h4 hgr hg4 HG3 HO3 HW2 HG2 HNL HN
        go_wp2_with fail
        obtain ⟨e8, he8⟩ : ∃ e8, 8 * q = e8 := ⟨_, rfl⟩
        have em : IntKind.i64.wrap (8 * (q : Int)) = (e8 : Int) := by rw [IntWalk.i64_in _ (by omega)]; omega
        have em2 : (8 * (q : Int)) = (e8 : Int) := by omega
        have hE : e8 ≤ 6408 := by omega
        have HE := Lib.hid he8
        rw [he8] at HREST
        clear he8
        go_loopw [10] (fun i wr => ∃ j : Nat, j ≤ e8 ∧ i = .int .i64 j ∧ Hid (Rr wr gr P j) ∧ Hid (w.grownBy wr none)) (fun i _ => e8 - (iv i).toNat)
        case atStart => exact ⟨0, by omega, rfl, HR4, HG4⟩
        case round =>
          obtain ⟨j, hj, rfl, HRR, HG⟩ := hrel
          by_cases hlt : j < e8
          · obtain ⟨x, hx⟩ : ∃ x, num P j 1 = x := ⟨_, rfl⟩
            have hx1 : ¬ (1 : Int) < (x : Int) := by have := num_lt P j 1; omega
            have hgot : got P j 1 = (x, true, j + 1) := by rw [got_yes P _ _ (by rw [HPL.out, HE.out]; omega), hx]
            have GG := Lib.hid hgot
            clear hx hgot
            go_wp2_with fail
            refine (get_calls gr P j 1 wr HRR.out).mono ?_
            rintro e w5 ⟨rfl, h5, hg5⟩
            rw [show inn 1 = 1 from rfl, GG.out] at h5 ⊢
            have HG5 := Lib.hid (grown_over HG.out hg5 HGR.out)
            have HR5 := Lib.hid h5
            clear h5 hg5
            dsimp only
            go_wp2_with fail
            go_roundw
            case rel => exact ⟨j + 1, by omega, by go_num, HR5, HG5⟩
            case measure => simp [iv]; omega
          · obtain rfl : e8 = j := by omega
            have g1 : got P e8 1 = (0, false, e8) := by unfold got; rw [if_neg (by rw [HPL.out, HE.out]; omega), HPL.out, HE.out]
            have g2 : got P e8 0 = (0, true, e8) := by rw [got_yes P _ _ (by rw [HPL.out, HE.out]; omega)]; rfl
            have G1 := Lib.hid g1
            have G2 := Lib.hid g2
            clear g1 g2
            go_wp2_with fail
            refine (get_calls gr P e8 1 wr HRR.out).mono ?_
            rintro e w5 ⟨rfl, h5, hg5⟩
            rw [show inn 1 = 1 from rfl, G1.out] at h5 ⊢
            have HG5 := Lib.hid (grown_over HG.out hg5 HGR.out)
            have HR5 := Lib.hid h5
            clear h5 hg5
            dsimp only
            go_wp2_with fail
            refine (get_calls gr P e8 0 w5 HR5.out).mono ?_
            rintro e w6 ⟨rfl, h6, hg6⟩
            rw [show inn 0 = 0 from rfl, G2.out] at h6 ⊢
            have HG6 := Lib.hid (grown_over HG5.out hg6 HGR.out)
            have HR6 := Lib.hid h6
            clear h6 hg6
            dsimp only
            go_wp2_with fail
            refine (rest_calls gr P e8 w6 HR6.out).mono ?_
            rintro e w7 ⟨rfl, m7, rfl⟩
            rw [HREST.out]
            go_wp2_with fail
            go_ret
            exact ⟨rfl, below_drawn (below_grown HG6.out) _⟩
end Go.Proofs.Ytldgldibkibknaa
