/-
  The law BitsReads, walked.
-/
import Derived.Test.YtldgldibkibknaaWrites
import Derived.Test.YtldgldibkibknaaTx6
namespace Go.Proofs.Ytldgldibkibknaa
open Go.RowKit

theorem bi_flat (l : List Nat) (h8 : ∀ x ∈ l, x < 256) (k : Nat) (hk : k < 8 * l.length) : bi (flat l) k = obit l k := by
  rw [← obit_pk (flat l) l.length k hk, pk_flat l h8]
theorem bnum_flat (l : List Nat) (h8 : ∀ x ∈ l, x < 256) (a n : Nat) (h : a + n ≤ 8 * l.length) : bnum (flat l) a n = num l a n := by
  rw [← num_pk (flat l) l.length a n h, pk_flat l h8]
/-- Rest of the bits from a on is what the reader's Rest tells. -/
theorem rest_flat (l : List Nat) (h8 : ∀ x ∈ l, x < 256) (a : Nat) (ha : a ≤ 8 * l.length) : refRest ((flat l).drop a) = restB l a := by
  have hl : ((flat l).drop a).length = 8 * l.length - a := by rw [List.length_drop, flat_len]
  unfold refRest restB
  rw [hl]
  congr 1
  rw [Bool.eq_iff_iff, decide_eq_true_eq, List.all_eq_true]
  constructor
  · intro h i hi
    have hi := List.mem_range.1 hi
    have := h i hi
    rw [bi_drop, bi_flat l h8 _ (by omega)] at this
    rw [this]; rfl
  · intro h i hi
    have := h i (List.mem_range.2 hi)
    rw [bi_drop, bi_flat l h8 _ (by omega)]
    simpa using this

set_option maxRecDepth 100000 in
set_option maxHeartbeats 4000000 in
theorem reads (A : Option Addr) (n cap : Nat) (l0 : List Nat) (A2 : Option Addr) (m cap2 : Nat) (ps : List Pt) (w : World) (hn : n ≤ cap) (hcap : cap ≤ 9223372036854775807) (hm : m ≤ 9223372036854775807) (hlt : ∀ c ∈ l0, c < 256)
    (hR : Rd w w.heap.size A n (l0.map bv)) (hR2 : Rp w w.heap.size A2 m ps) :
    Calls Try.prog 8 #[.slice A n cap, .slice A2 m cap2] w fun e w' => e = .returned (.bool true) ∧ Below w.heap.size w w' := by
  obtain ⟨q, hq, hq200, hqc⟩ := fewer n 200
  obtain ⟨l, Hl⟩ : ∃ l, Hid (l = l0.take q) := ⟨_, Lib.hid rfl⟩
  have HR := Lib.hid ((hR.take_ hq).of_ (by rw [Hl.out, List.map_take]) : Rd w w.heap.size A q (l.map bv))
  have HLT : Hid (∀ c ∈ l, c < 256) := Lib.hid (fun c hc => hlt c (List.mem_of_mem_take (Hl.out ▸ hc)))
  have HLQ : Hid (l.length = q) := Lib.hid (by have := HR.out.1; simpa using this)
  have HR2 := Lib.hid hR2
  have HS := Lib.hid (shown_calls w)
  clear hR hlt hR2 Hl
  have hcap0 : n ≤ 9223372036854775807 := by omega
  obtain ⟨Z, hZ⟩ : ∃ Z, str l = Z := ⟨_, rfl⟩
  obtain ⟨Q, hQ⟩ : ∃ Q, Q = q := ⟨_, rfl⟩
  have HLQ2 : Hid (l.length = Q) := Lib.hid (by rw [HLQ.out, hQ])
  have HQ := Lib.hid hQ
  have hQ200 : Q ≤ 200 := by omega
  have HZ := Lib.hid hZ
  clear hZ hQ HLQ
  rcases hqc with ⟨rfl, h⟩ | ⟨rfl, h⟩
  all_goals
    go_enter Try.func8, Try.ntmps8
    go_wp2_with fail
    refine HS.out.mono ?_
    rintro e w1 ⟨rfl, h1⟩
    have HG1 := Lib.hid h1
    clear h1
    go_wp2_with (at_builtin; refine wpList_append_rd _ rfl (.tmp 19) (.tmp 24) 27 rfl w1.heap.size 5 (.int .u8 0) 1 Try.underlying27 Try.info5 rfl _ 0 [] rfl (World.ownsRow_lit w1 #[] 0 (Nat.le_refl _) (by decide) rfl) w.heap.size A _ cap (l.map bv) rfl (HR.out.keep fun p hp => World.cell?_of_block ((Below.heap_alloc w1 _ _ (by have := HG1.out.size; omega)).trans (HG1.out.block _ hp (by simp)))) (bv_one _) Q (by have := HQ.out; omega) _ (List.nil_append _) (by simp only [maxLen]; omega) (by omega) (by simp) ?_; intro A3 c3 w3 hown hgrow hrd; have HO3 := Lib.hid hown; have HG3 : Hid (w1.grownBy w3 none) := Lib.hid (grown_over (World.grownBy_alloc w1 _ none) hgrow (Nat.le_refl _)); clear hown hgrow hrd; have ka : (Go.convert 27 9 (.slice A3 Q c3)).run Try.prog w3 = .ok (.string Z) w3 := HZ.out ▸ run_string_rd w3 27 5 9 Try.underlying27 Try.underlying5 Try.underlying9 c3 (rd_of_own HO3.out))
    refine (refof_calls l Z HZ.out.symm HLT.out (by have := HLQ2.out; omega) w3).mono ?_
    rintro e w4 ⟨rfl, h4⟩
    have HG4 := Lib.hid (only_trans HG3.out h4)
    have HO4 := Lib.hid (World.ownsRow.kept (h := HO3.out) h4 (Classical.em _))
    clear h4 ka HO3 HG3
    obtain ⟨F, hF⟩ : ∃ F, tx (flat l) = F := ⟨_, rfl⟩
    rw [hF]
    have HF : Hid (F = tx ((flat l).drop 0)) := Lib.hid (by rw [← hF]; rfl)
    clear hF
    go_wp2_with fail
    refine (newq_calls w4.heap.size Q c3 A3 l (by omega) HLT.out w4 (rd_of_own HO4.out) (Nat.le_refl _)).mono ?_
    rintro e w5 ⟨gr, Ar, rfl, h5, hg5, har5, hgr5⟩
    have HSEP : Hid (∀ gb, A3 = some ⟨gb, 0, none⟩ → Ap gr Ar gb none) := Lib.hid (fun gb e => by
      subst e
      have hl := (HO4.out.lt gb rfl).2
      exact ⟨by omega, fun ad ea => by have := (har5 ad ea).1; omega, fun _ e => by cases e⟩)
    have HGR : Hid (w.heap.size ≤ gr) := Lib.hid (by have := HG1.out.size; have := HG4.out.size; omega)
    have HRQ := Lib.hid h5
    have HB5 := Lib.hid (bq_own (only_trans HG4.out hgr5) (World.ownsRow.kept (h := HO4.out) hgr5 (Classical.em _)))
    clear h5 hg5 har5 hgr5 HO4 HG4
    go_wp2_with fail
    go_loopw [9] (fun i wr => ∃ k : Nat, k ≤ Q ∧ i = .int .i64 k ∧ Hid (Bq w1 wr A3 Q) ∧ Hid (Rq wr gr Ar l 0)) (fun i _ => Q - (iv i).toNat)
    case atStart => exact ⟨0, by omega, rfl, HB5, HRQ⟩
    case round =>
      obtain ⟨k, hk, rfl, HB, HRR⟩ := hrel
      by_cases hlt : k < Q
      · obtain ⟨hg, hb⟩ := HB.out
        obtain ⟨gb, rfl, hgb, cur, hblk, hcur⟩ := hb (by omega)
        obtain ⟨x, hx⟩ := hcur k hlt
        have c0 := hblk.cell k
        have c9 := Blk.free hblk k
        rw [hx] at c0
        have HH := Lib.hid hblk
        have HC := Lib.hid hcur
        have HG := Lib.hid hg
        have HGB := Lib.hid hgb
        have HAP := Lib.hid (HSEP.out gb rfl)
        clear hg hb hblk hcur hgb hx HB
        have HN := Lib.hid (bq_put HG.out HGB.out HH.out HC.out k hlt 63)
        have HRN := Lib.hid (HRR.out.other (World.grownBy_setCell' wr gb k (.int .u8 63)) HAP.out)
        go_wp2_with fail
        go_roundw
        case rel => exact ⟨k + 1, by omega, by go_num, HN, HRN⟩
        case measure => simp [iv]; omega
      · obtain rfl : Q = k := by omega
        have HGW := Lib.hid (only_trans HG1.out HB.out.1)
        have HRW := Lib.hid HRR.out.rr
        clear HB HRR HSEP HRQ HB5
        go_wp2_with fail
        go_loopw [7, 10] (fun sv i wr => ∃ (k a : Nat) (T : ByteArray), k ≤ m ∧ k ≤ 100 ∧ sv = .string T ∧ i = .int .i64 k ∧ Hid (T = tx ((flat l).drop a)) ∧ Hid (Rr wr gr l a) ∧ Hid (w.grownBy wr none)) (fun _ i _ => m - (iv i).toNat)
        case atStart => exact ⟨0, 0, F, by omega, by omega, rfl, rfl, HF, HRW, HGW⟩
        case round =>
          obtain ⟨k, a, T, hk, hk100, rfl, rfl, HT, HRR, HG⟩ := hrel
          have HRF := Lib.hid (rest_flat l HLT.out a HRR.out.at_le)
          have HDL : Hid (((flat l).drop a).length = 8 * Q - a) := Lib.hid (by rw [List.length_drop, flat_len, HLQ2.out])
          have HAT : Hid (a ≤ 8 * Q) := Lib.hid (by have := HRR.out.at_le; have := HLQ2.out; omega)
          have hrr : (restB l a != restB l a) = false := by cases restB l a <;> rfl
          have hrr2 : (restB l a == restB l a) = true := by cases restB l a <;> rfl
          by_cases hlt : k < m ∧ k < 100
          · obtain ⟨hlt, hlt100⟩ := hlt
            obtain ⟨b, off, p, rfl, hbB, hx, hr⟩ := HR2.out.at_ Pt.cl_len hlt
            have HCC := Lib.hid hr
            obtain ⟨pn, pbb, ps1⟩ := p
            clear hr hx hbB
            go_wp2_with fail
            refine (rest_calls gr l a wr HRR.out).mono ?_
            rintro e w6 ⟨rfl, m6, rfl⟩
            go_wp2_with fail
            refine (refrest_calls _ T HT.out (by have := HDL.out; omega) _).mono ?_
            rintro e w7 ⟨rfl, rfl⟩
            rw [HRF.out]
            obtain ⟨c0, c1, c2⟩ := pt_cells (w := wr.drewN m6) (b := b) (o := off + k * 3) (p := ⟨pn, pbb, ps1⟩) (fun j u hu => HG.out.cell (HCC.out j u hu) (by simp))
            dsimp only at c0 c1 c2
            go_wp2_with fail
            refine (count_calls pbb _).mono ?_
            rintro e w8 ⟨rfl, rfl⟩
            obtain ⟨z, hz⟩ : ∃ z, inn pbb = z := ⟨_, rfl⟩
            have hz64 : z ≤ 64 := by rw [← hz]; exact inn_le _
            have hget := fun wr h => get_calls gr l a pbb wr h
            have hsgn := fun wr h => signR_calls gr l a pbb wr h
            simp only [hz] at hget hsgn
            rw [hz]
            clear hz
            obtain ⟨S, hS⟩ : ∃ S, T.size = S := ⟨_, rfl⟩
            have HS := Lib.hid (show S = 8 * Q - a by rw [← hS, HT.out, tx_size, HDL.out])
            clear c0 c1 c2
            by_cases hin : z ≤ S
            · obtain ⟨C, hC⟩ : ∃ C, T.extract 0 z = C := ⟨_, rfl⟩
              obtain ⟨D, hD⟩ : ∃ D, T.extract z S = D := ⟨_, rfl⟩
              have HC : Hid (C = tx (((flat l).drop a).take z)) := Lib.hid (by rw [← hC, HT.out, tx_extract]; rfl)
              have HD : Hid (D = tx ((flat l).drop (a + z))) := Lib.hid (by
                rw [← hD, HT.out, tx_extract, List.drop_drop, List.take_of_length_le (by rw [List.length_drop, flat_len, HLQ2.out, HS.out]; omega)])
              have HCL : Hid ((((flat l).drop a).take z).length = z) := Lib.hid (by rw [List.length_take, HDL.out, ← HS.out]; omega)
              have hv : bnum (((flat l).drop a).take z) 0 z = num l a z := by
                rw [bnum_cut _ _ _ _ (Nat.le_refl z), bnum_flat l HLT.out a z (by have := HS.out; have := HLQ2.out; have := HAT.out; omega)]
              have hgot : got l a z = (num l a z, true, a + z) := got_yes l a z (by have := HS.out; have := HLQ2.out; have := HAT.out; omega)
              obtain ⟨v, hvv⟩ : ∃ v, num l a z = v := ⟨_, rfl⟩
              obtain ⟨sv, hsv⟩ : ∃ sv, sgn v z = sv := ⟨_, rfl⟩
              rw [hvv] at hv hgot
              simp only [hgot] at hget hsgn
              simp only [hsv] at hsgn
              have HV := Lib.hid hv
              have HSV := Lib.hid hsv
              have HGET := Lib.hid hget
              have HSGN := Lib.hid hsgn
              have e1 : ((v : Int) != (v : Int)) = false := by simp
              have e2 : (sv != sv) = false := by simp
              clear hv hsv hvv hgot hget hsgn
              rcases ps1 with _ | _
              · obtain ⟨c0, c1, c2⟩ := pt_cells (w := wr.drewN m6) (b := b) (o := off + k * 3) (p := ⟨pn, pbb, false⟩) (fun j u hu => HG.out.cell (HCC.out j u hu) (by simp))
                dsimp only at c0 c1 c2
                go_wp2_with fail
                refine (HGET.out _ (HRR.out.drewN m6)).mono ?_
                rintro e w8 ⟨rfl, h8, hg8⟩
                have HG8 := Lib.hid (grown_over (grown_drawn HG.out m6) hg8 HGR.out)
                have HR8 := Lib.hid h8
                clear h8 hg8
                dsimp only
                go_wp2_with fail
                refine (number_calls _ C HC.out (by rw [HCL.out]; exact hz64) _).mono ?_
                rintro e w9 ⟨rfl, rfl⟩
                rw [HCL.out, HV.out]
                go_wp2_with fail
                go_roundw
                case rel => exact ⟨k + 1, _, _, by omega, by omega, rfl, by go_num, HD, HR8, HG8⟩
                case measure => simp [iv]; omega
              · obtain ⟨c0, c1, c2⟩ := pt_cells (w := wr.drewN m6) (b := b) (o := off + k * 3) (p := ⟨pn, pbb, true⟩) (fun j u hu => HG.out.cell (HCC.out j u hu) (by simp))
                dsimp only at c0 c1 c2
                go_wp2_with fail
                refine (HSGN.out _ (HRR.out.drewN m6)).mono ?_
                rintro e w8 ⟨rfl, h8, hg8⟩
                have HG8 := Lib.hid (grown_over (grown_drawn HG.out m6) hg8 HGR.out)
                have HR8 := Lib.hid h8
                clear h8 hg8
                dsimp only
                go_wp2_with fail
                refine (signed_calls _ C HC.out (by rw [HCL.out]; exact hz64) _).mono ?_
                rintro e w9 ⟨rfl, rfl⟩
                rw [HCL.out, HV.out, HSV.out]
                go_wp2_with fail
                go_roundw
                case rel => exact ⟨k + 1, _, _, by omega, by omega, rfl, by go_num, HD, HR8, HG8⟩
                case measure => simp [iv]; omega
            · have hgot : got l a z = (0, false, 8 * Q) := by
                unfold got; rw [if_neg (by have := HS.out; have := HLQ2.out; have := HAT.out; omega), HLQ2.out]
              have hsz : sgn 0 z = 0 := by unfold sgn; rw [if_pos (by have := Nat.two_pow_pos z; omega)]; rfl
              simp only [hgot] at hget hsgn
              simp only [hsz] at hsgn
              have HGET := Lib.hid hget
              have HSGN := Lib.hid hsgn
              have HD : Hid ((⟨#[]⟩ : ByteArray) = tx ((flat l).drop (8 * Q))) := Lib.hid (by
                rw [List.drop_eq_nil_of_le (by rw [flat_len, HLQ2.out]; omega)]; rfl)
              clear hgot hget hsgn hsz
              rcases ps1 with _ | _
              · obtain ⟨c0, c1, c2⟩ := pt_cells (w := wr.drewN m6) (b := b) (o := off + k * 3) (p := ⟨pn, pbb, false⟩) (fun j u hu => HG.out.cell (HCC.out j u hu) (by simp))
                dsimp only at c0 c1 c2
                go_wp2_with fail
                refine (HGET.out _ (HRR.out.drewN m6)).mono ?_
                rintro e w8 ⟨rfl, h8, hg8⟩
                have HG8 := Lib.hid (grown_over (grown_drawn HG.out m6) hg8 HGR.out)
                have HR8 := Lib.hid h8
                clear h8 hg8
                dsimp only
                go_wp2_with fail
                refine (number_calls [] ⟨#[]⟩ rfl (by decide) _).mono ?_
                rintro e w9 ⟨rfl, rfl⟩
                rw [show bnum [] 0 [].length = 0 from rfl]
                go_wp2_with fail
                go_roundw
                case rel => exact ⟨k + 1, _, _, by omega, by omega, rfl, by go_num, HD, HR8, HG8⟩
                case measure => simp [iv]; omega
              · obtain ⟨c0, c1, c2⟩ := pt_cells (w := wr.drewN m6) (b := b) (o := off + k * 3) (p := ⟨pn, pbb, true⟩) (fun j u hu => HG.out.cell (HCC.out j u hu) (by simp))
                dsimp only at c0 c1 c2
                go_wp2_with fail
                refine (HSGN.out _ (HRR.out.drewN m6)).mono ?_
                rintro e w8 ⟨rfl, h8, hg8⟩
                have HG8 := Lib.hid (grown_over (grown_drawn HG.out m6) hg8 HGR.out)
                have HR8 := Lib.hid h8
                clear h8 hg8
                dsimp only
                go_wp2_with fail
                refine (signed_nil _).mono ?_
                rintro e w9 ⟨rfl, rfl⟩
                go_wp2_with fail
                go_roundw
                case rel => exact ⟨k + 1, _, _, by omega, by omega, rfl, by go_num, HD, HR8, HG8⟩
                case measure => simp [iv]; omega
          · rcases (show ¬ k < m ∨ (k < m ∧ ¬ k < 100) by omega) with h | ⟨h, h2⟩
            all_goals
              clear hlt
              go_wp2_with fail
              refine (rest_calls gr l a wr HRR.out).mono ?_
              rintro e w6 ⟨rfl, m6, rfl⟩
              go_wp2_with fail
              refine (refrest_calls _ T HT.out (by have := HDL.out; omega) _).mono ?_
              rintro e w7 ⟨rfl, rfl⟩
              rw [HRF.out]
              go_wp2_with fail
              go_ret
              exact ⟨rfl, below_drawn (below_grown HG.out) _⟩
end Go.Proofs.Ytldgldibkibknaa
