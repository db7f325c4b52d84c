/-
  The law MovesPlays, walked.
-/
import Derived.Test.YtehlehfljgphkaaP11
import Derived.Test.YtehlehfljgphkaaP13n
import Derived.Test.YtehlehfljgphkaaP13y
import Derived.Test.YtehlehfljgphkaaP22
import Derived.Test.YtehlehfljgphkaaP24
import Derived.Deep.DeepCutAuto
import Derived.Deep.CutBlock
namespace Go.Proofs.Ytehlehfljgphkaa
open Go.RowKit

theorem plays_new {w0 w1 : World} (h : w0.grownBy w1 none) : Plays w0 ((w1.alloc (.cells #[.slice none 0 0, .bool false, .int .u16 0] 64)).alloc (.cells #[.slice none 0 0, .slice none 0 0] 29)) w1.heap.size (w1.heap.size + 1) 0 := by
  have hs := h.size
  refine ⟨[], [], false, 0, .slice none 0 0, none, none, ⟨⟨only_trans h (only_trans (World.grownBy_alloc w1 (.cells #[.slice none 0 0, .bool false, .int .u16 0] 64) none) (World.grownBy_alloc _ _ _)), hs, (Mv.new w1).grown (World.grownBy_alloc _ _ _)⟩,
    ⟨⟨0, 0, Nat.zero_le _, Nat.zero_le _, ?_⟩, Rg.nil_ _ _ _, Rg.nil_ _ _ _, (fun ad e => by cases e), (fun ad e => by cases e)⟩, by omega, by omega, by simp [Value.ownBlock], (fun ad e => by cases e), (fun ad e => by cases e)⟩, .inl ⟨rfl, rfl⟩, by simp, by simp, fun c h => by simp at h, fun c h => by simp at h⟩
  have := Blk.new (w1.alloc (.cells #[.slice none 0 0, .bool false, .int .u16 0] 64)) 29 #[.slice none 0 0, .slice none 0 0]
  rwa [World.size_alloc] at this
theorem st_cells7 {w : World} {b o : Nat} {x : St} (h : w.rangeAt b o x.cl) : w.cell? ⟨b, o, none⟩ = some (.bool x.acks) ∧ w.cell? ⟨b, o + 1, none⟩ = some (.int .u16 x.seq) ∧ w.cell? ⟨b, o + 2, none⟩ = some (.int .u16 x.c.seq) ∧ w.cell? ⟨b, o + 3, none⟩ = some (.int .u8 x.c.btn) ∧ w.cell? ⟨b, o + 4, none⟩ = some (.int .i8 x.c.dx) ∧ w.cell? ⟨b, o + 5, none⟩ = some (.int .i8 x.c.dy) ∧ w.cell? ⟨b, o + 6, none⟩ = some (.int .i64 x.c.ticks) :=
  ⟨h 0 _ rfl, h 1 _ rfl, h 2 _ rfl, h 3 _ rfl, h 4 _ rfl, h 5 _ rfl, h 6 _ rfl⟩

/-- The saved commands told, as they may be written over. -/
def Sv (w0 w : World) (g gw kp : Nat) (v : Value) (AL AA A : Option Addr) (n : Nat) : Prop := 0 < n → ∃ kr cur, A = some ⟨kr, 0, none⟩ ∧ Blk w kr 33 cur ∧ n * 5 ≤ cur.size ∧ Apt w0 g gw v AL AA kr ∧ kr ≠ kp
theorem Sv.put_p {w0 w w' : World} {g gw kp : Nat} {v : Value} {AL AA A : Option Addr} {n : Nat} (h : Sv w0 w g gw kp v AL AA A n) (hg : w.grownBy w' (some kp)) : Sv w0 w' g gw kp v AL AA A n := fun hn => by
  obtain ⟨kr, cur, e, hb, hs, ha, hne⟩ := h hn
  exact ⟨kr, cur, e, hb.grown hg (fun e => hne (by injection e)), hs, ha, hne⟩
theorem Sv.grown_ {w0 w w' : World} {g gw kp : Nat} {v : Value} {AL AA A : Option Addr} {n : Nat} (h : Sv w0 w g gw kp v AL AA A n) (hg : w.grownBy w' none) : Sv w0 w' g gw kp v AL AA A n := fun hn => by
  obtain ⟨kr, cur, e, hb, hs, ha, hne⟩ := h hn
  exact ⟨kr, cur, e, hb.grown hg (by simp), hs, ha, hne⟩
theorem sv_own {w0 w w' : World} {g gw kp n c : Nat} {l lr all : List Cmd} {s : Bool} {last : Int} {v : Value} {AL AA A : Option Addr} (hT : Two17 w0 w g gw l lr all s last v AL AA) (h : w'.ownsRow w.heap.size 33 5 (.slice A n c) n (l.flatMap Cmd.cl)) (hk : w'.heap.size ≤ kp) : Sv w0 w' g gw kp v AL AA A n := fun hn => by
  rcases h.2 with ⟨hv, h0⟩ | ⟨kr, cap, cur, hv, hb, hh, h1, h2, hs, hx⟩
  · omega
  · injection hv with hA
    subst hA
    have hlt := (h.lt kr rfl).2
    exact ⟨kr, cur, rfl, hh, by rw [hs]; exact Nat.mul_le_mul_right _ h1, hT.fresh kr hb, by omega⟩

set_option maxRecDepth 100000 in
set_option maxHeartbeats 4000000 in
theorem plays (A : Option Addr) (m cap : Nat) (xs : List St) (w : World) (hm : m ≤ 9223372036854775807)
    (hR : Rst w w.heap.size A m xs) (hok : ∀ x ∈ xs, x.ok) :
    Calls Try.prog 3 #[.slice A m cap] w fun e w' => e = .returned (.bool true) ∧ Below w.heap.size w w' := by
  have HR := Lib.hid hR
  have HOK := Lib.hid hok
  clear hR hok
  go_enter Try.func3, Try.ntmps3
  go_wp2_with fail
  refine (shown_calls w).mono ?_
  rintro e w1 ⟨rfl, h1⟩
  have G1 := Lib.hid h1
  clear h1
  go_wp2_with fail
  refine (new_calls w1).mono ?_
  rintro e w2 ⟨rfl, rfl⟩
  go_wp2_with fail
  have HP2 := Lib.hid (plays_new G1.out)
  obtain ⟨w2, hw2⟩ : ∃ w2, (w1.alloc (.cells #[.slice none 0 0, .bool false, .int .u16 0] 64)).alloc (.cells #[.slice none 0 0, .slice none 0 0] 29) = w2 := ⟨_, rfl⟩
  obtain ⟨g, hg⟩ : ∃ g, w1.heap.size = g := ⟨_, rfl⟩
  obtain ⟨gw, hgw⟩ : ∃ gw, g + 1 = gw := ⟨_, rfl⟩
  rw [hw2, hg, hgw] at HP2
  rw [hw2, hg, hgw]
  clear hw2 hg hgw G1
  go_loopw [6] (fun i wr => ∃ k : Nat, k ≤ m ∧ k ≤ 200 ∧ i = .int .i64 k ∧ Hid (Plays w wr g gw k)) (fun i _ => m - (intOf i).toNat)
  case atStart => exact ⟨0, by omega, by omega, rfl, HP2⟩
  case round =>
    obtain ⟨k, hk, hk200, rfl, HP⟩ := hrel
    by_cases hlt : k < m ∧ k < 200
    · obtain ⟨hlt, hlt200⟩ := hlt
      obtain ⟨l, all, s, last, v, AL, AA, hT, hti, hl64, hall, hsa, hsl⟩ := HP.out
      obtain ⟨b, off, x, rfl, hb, hx, hr⟩ := HR.out.at_ St.cl_len hlt
      have hxo := HOK.out x (List.mem_of_getElem? hx)
      obtain ⟨c0, c1, c2, c3, c4, c5, c6⟩ := st_cells7 (w := wr) (fun j u hu => hT.own.grown.cell (hr j u hu) (by simp))
      obtain ⟨ak, q, sq, bt, dx, dy, t⟩ := x
      obtain ⟨hq, hsq⟩ := hxo
      dsimp only at c0 c1 c2 c3 c4 c5 c6 hq hsq
      have HT := Lib.hid hT
      have HTI := Lib.hid hti
      have HL := Lib.hid hl64
      have HALL := Lib.hid hall
      have HSA := Lib.hid hsa
      have HSL := Lib.hid hsl
      clear hT hti hl64 hall hsa hsl hr hx hb HP
      go_upto_if 32 with (fail)
      have hgr := World.grownBy_alloc wr (.cells #[.bool ak, .int .u16 q, .int .u16 sq, .int .u8 bt, .int .i8 dx, .int .i8 dy, .int .i64 t] 35) none
      have HT1 := Lib.hid (HT.out.grown hgr)
      have HB1 := Lib.hid (Blk.new wr 35 #[.bool ak, .int .u16 q, .int .u16 sq, .int .u8 bt, .int .i8 dx, .int .i8 dy, .int .i64 t])
      have HA1 := Lib.hid (HT.out.fresh wr.heap.size (Nat.le_refl _))
      obtain ⟨w3, hw3⟩ : ∃ w3, wr.alloc (.cells #[.bool ak, .int .u16 q, .int .u16 sq, .int .u8 bt, .int .i8 dx, .int .i8 dy, .int .i64 t] 35) = w3 := ⟨_, rfl⟩
      obtain ⟨ks, hks⟩ : ∃ ks, wr.heap.size = ks := ⟨_, rfl⟩
      rw [hw3] at HT1 HB1
      rw [hks] at HB1 HA1
      rw [hw3, hks]
      clear hgr hw3 hks HT c0 c1 c2 c3 c4 c5 c6
      go_cut [] (fun wx => Hid (Plays w wx g gw (k + 1)))
      case first =>
        rcases ak with _ | _
        · obtain ⟨code, hcode⟩ : ∃ code, addC s last l.length ⟨sq, bt, dx, dy, t⟩ = code := ⟨_, rfl⟩
          by_cases hz : code = 0
          · subst hz
            obtain ⟨hl, hrt, hnw⟩ := addC_zero hcode HL.out
            clear hcode
            go_wp2_with fail
            refine leaves_post (p13y HT1 HB1 hsq HSA (Lib.hid (by have := HALL.out; omega)) HTI HA1 (Lib.hid hl) hrt (Lib.hid hnw)) ?_
            intro w7 H7
            simp only [puts]
            go_simp
            go_wp2_with fail
            go_meet
            obtain ⟨v', AL', AA', h7⟩ := H7.out
            exact Lib.hid ⟨_, _, _, _, _, _, _, h7, Tied.snoc _ _, by rw [List.length_append]; simp; omega, by rw [List.length_append]; have := HALL.out; simp; omega,
              fun c hc => by rcases List.mem_append.1 hc with h | h; exact HSA.out c h; rw [List.mem_singleton.1 h]; exact hsq,
              fun c hc => by rcases List.mem_append.1 hc with h | h; exact HSL.out c h; rw [List.mem_singleton.1 h]; exact hsq⟩
          · go_wp2_with fail
            refine leaves_post (p13n HT1 HB1 hsq HSA (Lib.hid (by have := HALL.out; omega)) HTI HL (Lib.hid hcode) hz) ?_
            intro w7 H7
            simp only [puts]
            go_simp
            go_wp2_with fail
            go_meet
            exact Lib.hid ⟨_, _, _, _, _, _, _, H7.out, HTI.out, HL.out, by have := HALL.out; omega, HSA.out, HSL.out⟩
        · go_wp2_with fail
          refine leaves_post (p11 HT1 (Lib.hid (HB1.out.cell 1)) HA1 hq HSL HL) ?_
          intro w7 H7
          simp only [puts]
          go_simp
          go_wp2_with fail
          go_meet
          obtain ⟨v', AL', h7⟩ := H7.out
          exact Lib.hid ⟨_, _, _, _, _, _, _, h7, HTI.out, by rw [List.length_drop]; have := HL.out; omega, by have := HALL.out; omega, HSA.out, fun c hc => HSL.out c (List.mem_of_mem_drop hc)⟩
      case rest =>
        clear HT1 HB1 HA1 HTI HL HALL HSA HSL l all s last v AL AA hq hsq
        obtain ⟨l, all, s, last, v, AL, AA, hT, hti, hl64, hall, hsa, hsl⟩ := hcut.out
        have HT := Lib.hid hT
        have HE := Lib.hid hcut.out
        obtain ⟨n, hn⟩ : ∃ n, l.length = n := ⟨_, rfl⟩
        rw [hn] at hl64
        have HN := Lib.hid hn
        have HREST := Lib.hid (show Tied s last all ∧ all.length ≤ k + 1 ∧ (∀ c ∈ all, 0 ≤ c.seq ∧ c.seq < 65536) ∧ ∀ c ∈ l, 0 ≤ c.seq ∧ c.seq < 65536 from ⟨hti, hall, hsa, hsl⟩)
        clear hT hti hall hsa hsl hn hcut
        go_wp2_with fail
        refine (saved_calls g l s last v (by rw [HN.out]; omega) wc HT.out.own.mv).mono ?_
        rintro e w6 ⟨A6, q6, rfl, h6o, h6⟩
        rw [HN.out] at h6o
        rw [HN.out]
        have HT6 := Lib.hid (HT.out.grown h6)
        have HR6 := Lib.hid (own_rg Cmd.cl_len (by decide) h6o)
        have HO6 := Lib.hid h6o
        obtain ⟨cL, cA, c0, _, _, _⟩ := HT6.out.rm.two
        rw [HN.out] at c0
        clear h6 h6o
        go_wp2_with fail
        refine (same_calls A6 AL n q6 cL l (by omega) w6 HR6.out (HT6.out.rm.rl.of_len HN.out)).mono ?_
        rintro e w7 ⟨rfl, qq, rfl⟩
        have HT7 := Lib.hid (HT6.out.grown (grown_drawn (World.grownBy.refl w6 none) qq))
        have HO7 : Hid ((w6.drewN qq).ownsRow wc.heap.size 33 5 (.slice A6 n q6) n (l.flatMap Cmd.cl)) := Lib.hid (own_kept HO6.out (grown_drawn (World.grownBy.refl w6 none) qq))
        have c0' : (w6.drewN qq).cell? ⟨gw, 0, none⟩ = some (.slice AL n cL) := c0
        obtain ⟨w8, hw8⟩ : ∃ w8, w6.drewN qq = w8 := ⟨_, rfl⟩
        rw [hw8] at HT7 HO7 c0' ⊢
        clear hw8 HT6 HO6 c0 HR6
        go_wp2_with fail
        have hgr := World.grownBy_alloc w8 (.cells (plA 0 0 0 0) 45) none
        have HT9 := Lib.hid (HT7.out.grown hgr)
        have HV9 := Lib.hid (sv_own (kp := w8.heap.size) HT.out HO7.out (Nat.le_refl _))
        have HAP := Lib.hid (HT7.out.fresh w8.heap.size (Nat.le_refl _))
        have HB9 := Lib.hid (Blk.new w8 45 (plA 0 0 0 0))
        have HV9' : Hid (Sv w (w8.alloc (.cells (plA 0 0 0 0) 45)) g gw w8.heap.size v AL AA A6 n) := Lib.hid (HV9.out.grown_ hgr)
        have HC9 := Lib.hid (hgr.cell c0' (by simp))
        obtain ⟨w9, hw9⟩ : ∃ w9, w8.alloc (.cells (plA 0 0 0 0) 45) = w9 := ⟨_, rfl⟩
        obtain ⟨kp, hkp⟩ : ∃ kp, w8.heap.size = kp := ⟨_, rfl⟩
        rw [hw9] at HT9 HB9 HV9' HC9
        rw [hkp] at HB9 HV9' HAP
        rw [hw9, hkp]
        clear hgr hw9 hkp HT7 HO7 c0' HV9 HT
        go_loopw [10] (fun i wr => ∃ j : Nat, j ≤ n ∧ i = .int .i64 j ∧ Hid (Two17 w wr g gw l l all s last v AL AA) ∧ Hid (wr.cell? ⟨gw, 0, none⟩ = some (.slice AL n cL)) ∧ Hid (Sv w wr g gw kp v AL AA A6 n) ∧ Hid (∃ p : Pl, (l.take j).foldl (stepP 3) ⟨0, 0, 0, 0⟩ = p ∧ Blk wr kp 45 (plA p.x p.y p.h p.s))) (fun i _ => n - (intOf i).toNat)
        case atStart => exact ⟨0, by omega, rfl, HT9, HC9, HV9', Lib.hid ⟨⟨0, 0, 0, 0⟩, rfl, HB9.out⟩⟩
        case round =>
          obtain ⟨j, hj, rfl, HTJ, HCJ, HVJ, HPJ⟩ := hrel
          obtain ⟨⟨ax, ay, ah, as_⟩, hfold, hblk⟩ := HPJ.out
          have HF := Lib.hid hfold
          have HK := Lib.hid hblk
          clear hfold hblk HPJ HT9 HC9 HV9' HB9
          by_cases hjn : j < n
          · have x0 := HCJ.out
            obtain ⟨b2, off2, c, rfl, hb2, hx2, hr2⟩ := (HTJ.out.rm.rl.of_len HN.out).at_ Cmd.cl_len hjn
            obtain ⟨sq2, bt2, dx2, dy2, t2⟩ := c
            have HCC := Lib.hid hr2
            have HX := Lib.hid hx2
            obtain ⟨qx, hqx⟩ : ∃ q, stX ax dx2 t2 = q := ⟨_, rfl⟩
            obtain ⟨qy, hqy⟩ : ∃ q, stX ay dy2 t2 = q := ⟨_, rfl⟩
            obtain ⟨qh, hqh⟩ : ∃ q, stH ah 3 = q := ⟨_, rfl⟩
            obtain ⟨qs, hqs⟩ : ∃ q, stS as_ sq2 t2 = q := ⟨_, rfl⟩
            have HN2 : Hid ((l.take (j + 1)).foldl (stepP 3) ⟨0, 0, 0, 0⟩ = ⟨qx, qy, qh, qs⟩) := Lib.hid (by
              rw [List.take_add_one, HX.out, List.foldl_append, HF.out, ← hqx, ← hqy, ← hqh, ← hqs]; rfl)
            have HST : Hid (∀ W, Calls Try.prog 18 #[mapV 3, .agg (plA ax ay ah as_), .agg #[.int .u16 sq2, .int .u8 bt2, .int .i8 dx2, .int .i8 dy2, .int .i64 t2]] W fun e w' => e = .returned (.agg (plA qx qy qh qs)) ∧ W.grownBy w' none) := Lib.hid (fun W => by
              have := step_calls 3 ax ay ah as_ sq2 bt2 dx2 dy2 t2 W
              rwa [hqx, hqy, hqh, hqs] at this)
            clear hr2 hx2 hb2 hqx hqy hqh hqs
            go_wp2_with fail
            refine leaves_post (p22 HK HCJ HCC hjn HST) ?_
            intro w10 H10
            simp only [puts]
            go_simp
            have HT10 := Lib.hid (HTJ.out.beside HAP.out H10.out.1)
            have HC10 := Lib.hid (H10.out.1.cell HCJ.out (fun e => HAP.out.nw (by injection e with e; exact e.symm)))
            obtain ⟨kr, cur, rfl, hbr, hsz, har, hne⟩ := (HVJ.out.put_p H10.out.1) (by omega)
            obtain ⟨u, hu⟩ : ∃ u, cur[j * 5 + 4]? = some u := ⟨_, Array.getElem?_eq_getElem (by omega)⟩
            have y0 : w10.cell? ⟨kr, j * 5 + 4, none⟩ = some u := (hbr.cell _).trans hu
            have y1 := hbr.free (j * 5 + 4)
            have hgs := World.grownBy_setCell' w10 kr (j * 5 + 4) (.int .i64 99)
            have HT11 := Lib.hid (HT10.out.beside har hgs)
            have HC11 := Lib.hid (hgs.cell HC10.out (fun e => har.nw (by injection e with e; exact e.symm)))
            have HV11 : Hid (Sv w (w10.setCell ⟨kr, j * 5 + 4, none⟩ (.int .i64 99)) g gw kp v (some ⟨b2, off2, none⟩) AA (some ⟨kr, 0, none⟩) n) := Lib.hid (fun _ => ⟨kr, _, rfl, hbr.put _ _, by simpa using hsz, har, hne⟩)
            have HK11 := Lib.hid (H10.out.2.grown hgs (fun e => hne (by injection e with e; exact e.symm)))
            have hjn2 : (j : Int) < (n : Int) := by omega
            clear hbr hsz har hne hu hgs x0 HTJ HCJ HVJ HK HT10 HC10
            go_wp2_with fail
            go_roundw
            case rel => exact ⟨j + 1, by omega, by go_num, HT11, HC11, HV11, Lib.hid ⟨⟨qx, qy, qh, qs⟩, HN2.out, HK11.out⟩⟩
            case measure => simp [intOf]; omega
          · obtain rfl : j = n := by omega
            have HP9 : Hid (l.foldl (stepP 3) ⟨0, 0, 0, 0⟩ = ⟨ax, ay, ah, as_⟩) := Lib.hid (by rw [← HF.out, List.take_of_length_le (by rw [HN.out]; omega)])
            have x0 := HCJ.out
            go_wp2_with fail
            refine leaves_post (p24 HTJ HK (Lib.hid (by rw [HN.out]; exact hl64)) HP9) ?_
            intro w10 H10
            simp only [puts]
            go_simp
            have HE2 := Lib.hid (show Plays w w10 g gw (k + 1) from ⟨l, all, s, last, v, AL, AA, HTJ.out.grown H10.out, HREST.out.1, by rw [HN.out]; exact hl64, HREST.out.2.1, HREST.out.2.2.1, HREST.out.2.2.2⟩)
            clear x0 HTJ HCJ HVJ HK
            go_wp2_with fail
            go_roundw
            case rel => exact ⟨k + 1, by omega, by omega, by go_num, HE2⟩
            case measure => simp [intOf]; omega
    · rcases (show ¬ k < m ∨ (k < m ∧ k = 200) by omega) with h | ⟨h, rfl⟩
      all_goals
        clear hlt
        have HE : Hid (w.grownBy wr none) := Lib.hid (by obtain ⟨_, _, _, _, _, _, _, hT, _⟩ := HP.out; exact hT.own.grown)
        go_wp2_with fail
        go_ret
        exact ⟨rfl, below_grown HE.out⟩
end Go.Proofs.Ytehlehfljgphkaa
