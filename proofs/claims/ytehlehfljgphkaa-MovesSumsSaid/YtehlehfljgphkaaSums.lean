/-
  The law MovesSums, walked.
-/
import Derived.Test.YtehlehfljgphkaaTwo
import Derived.Test.YtehlehfljgphkaaEq
import Derived.Deep.DeepCutAuto
import Derived.Deep.CutBlock
namespace Go.Proofs.Ytehlehfljgphkaa
open Go.RowKit

/-- Where the play stands behind n commands that were saved. -/
def Play5 (w0 wr : World) (ga gb kl : Nat) (some_ : Bool) (n : Nat) : Prop :=
  ∃ la sa na va lb sb nb vb lc, Two5 w0 wr ga la sa na va gb lb sb nb vb ∧ Bes2 wr kl ga va gb vb lc ∧ w0.heap.size ≤ kl ∧ la.length = n ∧ Sum5 la sa na lb sb nb some_ lc
/-- Both are told of: what is left to be shown. -/
def Fin5 (w0 wr : World) (ga gb : Nat) : Prop :=
  ∃ la sa na va lb sb nb vb, Two5 w0 wr ga la sa na va gb lb sb nb vb ∧ la.length ≤ 40 ∧ lb.length ≤ la.length ∧ (∀ c ∈ la, rightB c = true) ∧ (∀ c ∈ lb, rightB c = true) ∧ la.foldl ticksP p0 = lb.foldl ticksP p0 ∧ sumT la = sumT lb
theorem Mv.drew_ {w : World} {g : Nat} {l : List Cmd} {s : Bool} {last : Int} {v : Value} (h : Mv w g l s last v) : Mv w.drew g l s last v := ⟨h.blk, h.row⟩
theorem okB_zero (c : Cmd) : okB ⟨0, 0, 0, 0, 0⟩ c = false := by
  unfold okB
  have : rightB ⟨0, 0, 0, 0, 0⟩ = false := by decide
  rw [this]; rfl

set_option maxRecDepth 100000 in
set_option maxHeartbeats 1500000 in
theorem sums (A : Option Addr) (m cap : Nat) (l : List Cmd) (w : World) (hm : m ≤ 9223372036854775807)
    (hR : Rc w w.heap.size A m l) :
    Calls Try.prog 9 #[.slice A m cap] w fun e w' => e = .returned (.bool true) ∧ Below w.heap.size w w' := by
  have HR := Lib.hid hR
  clear hR
  go_enter Try.func9, Try.ntmps9
  go_wp2_with fail
  refine (shown_calls w).mono ?_
  rintro e w1 ⟨rfl, h1⟩
  have G1 := Lib.hid h1
  clear h1
  go_wp2_with fail
  refine (new_calls w1).mono ?_
  rintro e w2 ⟨rfl, rfl⟩
  go_wp2_with fail
  refine (new_calls _).mono ?_
  rintro e w2 ⟨rfl, rfl⟩
  go_upto_block 0 with (fail)
  have hT2 : Two5 w ((w1.alloc (.cells #[.slice none 0 0, .bool false, .int .u16 0] 64)).alloc (.cells #[.slice none 0 0, .bool false, .int .u16 0] 64)) w1.heap.size [] false 0 (.slice none 0 0) (w1.heap.size + 1) [] false 0 (.slice none 0 0) :=
    ⟨⟨only_trans G1.out (only_trans (World.grownBy_alloc w1 (.cells #[.slice none 0 0, .bool false, .int .u16 0] 64) none) (World.grownBy_alloc _ _ _)), G1.out.size, (Mv.new w1).grown (World.grownBy_alloc _ _ _)⟩,
     ⟨only_trans G1.out (only_trans (World.grownBy_alloc w1 (.cells #[.slice none 0 0, .bool false, .int .u16 0] 64) none) (World.grownBy_alloc _ _ _)), by have := G1.out.size; omega, by
        have := Mv.new (w1.alloc (.cells #[.slice none 0 0, .bool false, .int .u16 0] 64))
        rwa [World.size_alloc] at this⟩, by omega, by simp [Value.ownBlock], by simp [Value.ownBlock], fun k e => by cases e⟩
  have hB2 := Bes2.new hT2 ⟨0, 0, 0, 0, 0⟩
  have hT3 := hT2.grown (World.grownBy_alloc _ (.cells #[.int .u16 0, .int .u8 0, .int .i8 0, .int .i8 0, .int .i64 0] 33) none)
  have hP3 : Play5 w (((w1.alloc (.cells #[.slice none 0 0, .bool false, .int .u16 0] 64)).alloc (.cells #[.slice none 0 0, .bool false, .int .u16 0] 64)).alloc (.cells #[.int .u16 0, .int .u8 0, .int .i8 0, .int .i8 0, .int .i64 0] 33)) w1.heap.size (w1.heap.size + 1) (w1.heap.size + 1 + 1) false 0 :=
    ⟨_, _, _, _, _, _, _, _, _, hT3, by rwa [World.size_alloc, World.size_alloc] at hB2, by have := G1.out.size; omega, rfl, Sum5.start⟩
  have HP3 := Lib.hid hP3
  clear hT2 hB2 hT3 hP3
  obtain ⟨w3, hw3⟩ : ∃ w3, (((w1.alloc (.cells #[.slice none 0 0, .bool false, .int .u16 0] 64)).alloc (.cells #[.slice none 0 0, .bool false, .int .u16 0] 64)).alloc (.cells #[.int .u16 0, .int .u8 0, .int .i8 0, .int .i8 0, .int .i64 0] 33)) = w3 := ⟨_, rfl⟩
  obtain ⟨ga, hga⟩ : ∃ ga, w1.heap.size = ga := ⟨_, rfl⟩
  obtain ⟨gb, hgb⟩ : ∃ gb, ga + 1 = gb := ⟨_, rfl⟩
  obtain ⟨kl, hkl⟩ : ∃ kl, gb + 1 = kl := ⟨_, rfl⟩
  rw [hw3, hga, hgb, hkl] at HP3
  simp only [hw3, hga, hgb, hkl]
  clear hw3 hga hgb hkl G1
  go_cut [7, 8] (fun sv nv wx => ∃ (b : Bool) (n : Nat), n ≤ 40 ∧ sv = .bool b ∧ nv = .int .u16 n ∧ Hid (Play5 w wx ga gb kl b n))
  case first =>
    go_wp2_with fail
    go_loopw [7, 8, 9] (fun sv nv i wr => ∃ (b : Bool) (n k : Nat), k ≤ m ∧ k ≤ 40 ∧ n ≤ k ∧ sv = .bool b ∧ nv = .int .u16 n ∧ i = .int .i64 k ∧ Hid (Play5 w wr ga gb kl b n)) (fun _ _ i _ => m - (intOf i).toNat)
    case atStart => exact ⟨false, 0, 0, by omega, by omega, by omega, rfl, rfl, rfl, HP3⟩
    case round =>
      obtain ⟨sm, n, k, hk, hk40, hnk, rfl, rfl, rfl, HP⟩ := hrel
      by_cases hlt : k < m ∧ k < 40
      · obtain ⟨hlt, hlt40⟩ := hlt
        obtain ⟨la, sa, na, va, lb, sb, nb, vb, lc, hT, hB, hkl, hlen, hS⟩ := HP.out
        have HT := Lib.hid hT
        have HB := Lib.hid hB
        have HKL := Lib.hid hkl
        have HLEN := Lib.hid hlen
        have HS := Lib.hid hS
        clear hT hB hkl hlen hS HP
        obtain ⟨b, off, c, rfl, hb, hx, hr⟩ := HR.out.at_ Cmd.cl_len hlt
        obtain ⟨sq, bt, dx, dy, t⟩ := c
        obtain ⟨c0, c1, c2, c3, c4⟩ := cmd_cells (w := wr) (fun j u hu => HT.out.a.grown.cell (hr j u hu) (by simp))
        clear hr hx hb
        have en : IntKind.u16.wrap ((n : Int) + 1) = ((n + 1 : Nat) : Int) := by rw [IntKind.wrap_u16]; omega
        have HK := Lib.hid (Bes2.new HT.out ⟨n, bt, dx, dy, t⟩)
        have HT1 := Lib.hid (HT.out.grown (World.grownBy_alloc wr (.cells #[.int .u16 n, .int .u8 bt, .int .i8 dx, .int .i8 dy, .int .i64 t] 33) none))
        have HB1 := Lib.hid (HB.out.grown (World.grownBy_alloc wr (.cells #[.int .u16 n, .int .u8 bt, .int .i8 dx, .int .i8 dy, .int .i64 t] 33) none))
        have hnw : sa = true → newer (n : Int) na = true := fun e => by
          rcases sm with _ | _
          · have := (HS.out.no rfl).2.2.1; rw [e] at this; cases this
          · have h1 := (HS.out.yes rfl).2.2.1
            have h2 := (HS.out.yes rfl).2.2.2.2.1
            rw [HLEN.out] at h1 h2
            exact newer_small (by omega) (by omega) (by omega)
        have HNW := Lib.hid hnw
        clear hnw HT HB
        rcases hrt : rightB ⟨n, bt, dx, dy, t⟩ with _ | _
        · go_wp2_with fail
          clear c0 c1 c2 c3 c4 en
          have hz : addC sa na la.length ⟨n, bt, dx, dy, t⟩ = 1 := by unfold addC; rw [if_neg (by rw [hrt]; decide)]
          refine (add_no ga la sa na va n bt dx dy t _ HT1.out.a.mv (by rw [HLEN.out]; omega) (by rw [hz]; decide)).mono ?_
          rintro e w4 ⟨rfl, h4⟩
          rw [hz]
          have HP4 : Hid (Play5 w w4 ga gb kl sm n) := Lib.hid ⟨_, _, _, _, _, _, _, _, _, HT1.out.grown h4, HB1.out.grown h4, HKL.out, HLEN.out, HS.out⟩
          clear h4 hz HT1 HB1 HK
          go_wp2_with fail
          go_roundw
          case rel => exact ⟨sm, n, k + 1, by omega, by omega, by omega, rfl, rfl, by go_num, HP4⟩
          case measure => simp [intOf]; omega
        · go_wp2_with fail
          clear c0 c1 c2 c3 c4
          refine (add_yes ga la sa na va n bt dx dy t _ HT1.out.a.mv (by rw [HLEN.out]; omega) hrt HNW.out).mono ?_
          rintro e w4 ⟨rfl, va4, h4, o4, f4⟩
          have HT4 := Lib.hid (HT1.out.put f4 h4 o4)
          have HB4 := Lib.hid (HB1.out.put f4 o4)
          have HK4 := Lib.hid (HK.out.put f4 o4)
          obtain ⟨kc, hkc⟩ : ∃ kc, wr.heap.size = kc := ⟨_, rfl⟩
          rw [hkc] at HK4
          rw [hkc]
          obtain ⟨ls, lbt, lx, ly, lt⟩ := lc
          obtain ⟨b0, b1, b2, b3, b4⟩ := cm_cells HB4.out.blk
          obtain ⟨k0, k1, k2, k3, k4⟩ := cm_cells HK4.out.blk
          clear h4 o4 f4 HT1 HB1 HK hkc
          go_wp2_with fail
          clear b0 b1 b2 b3 b4 k0 k1 k2 k3 k4 en
          refine (combine_calls ls lbt lx ly lt n bt dx dy t w4).mono ?_
          rintro e w5 ⟨rfl, h5⟩
          have HT5 := Lib.hid (HT4.out.grown h5)
          have hB5 := HB4.out.grown h5
          have hK5 := HK4.out.grown h5
          obtain ⟨b0, b1, b2, b3, b4⟩ := cm_cells hB5.blk
          obtain ⟨z0, z1, z2, z3, z4⟩ := cm_free hB5.blk
          obtain ⟨k0, k1, k2, k3, k4⟩ := cm_cells hK5.blk
          have hlk : kl < w5.heap.size := hB5.blk.lt
          have hlc : kc < w5.heap.size := hK5.blk.lt
          have HB5 := Lib.hid hB5
          have HK5 := Lib.hid hK5
          obtain ⟨ok, hok⟩ : ∃ ok, okB ⟨ls, lbt, lx, ly, lt⟩ ⟨n, bt, dx, dy, t⟩ = ok := ⟨_, rfl⟩
          obtain ⟨cb, hcb⟩ : ∃ cb, comb ⟨ls, lbt, lx, ly, lt⟩ ⟨n, bt, dx, dy, t⟩ = cb := ⟨_, rfl⟩
          rw [hok, hcb]
          have HOK := Lib.hid hok
          have HCB := Lib.hid hcb
          clear h5 hB5 hK5 HT4 HB4 HK4 hok hcb
          obtain ⟨qs, qb, qx, qy, qt⟩ := cb
          have hA6 : w5.grownBy (w5.alloc (.cells #[.int .u16 qs, .int .u8 qb, .int .i8 qx, .int .i8 qy, .int .i64 qt] 33)) none := World.grownBy_alloc _ _ _
          have HT6 := Lib.hid (HT5.out.grown hA6)
          have HB6 := Lib.hid (HB5.out.grown hA6)
          have HK6 := Lib.hid (HK5.out.grown hA6)
          clear hA6
          dsimp only [Cmd.val]
          rcases sm with _ | _
          · have hz : ok = false := by
              have := (HS.out.no rfl).2.2.2.2
              have h2 := HOK.out
              rw [this, okB_zero] at h2
              exact h2.symm
            subst hz
            have HS7 := Lib.hid (cm_store HB5.out.blk n bt dx dy t)
            go_wp2_with fail
            go_roundw
            case rel => exact ⟨true, n + 1, k + 1, by omega, by omega, by omega, rfl, by go_num, by go_num, Lib.hid ⟨_, _, _, _, _, _, _, _, _, (HT5.out.beside HB5.out HKL.out HS7.out.2).grown (World.grownBy_alloc _ _ _), (HB5.out.own (c' := ⟨n, bt, dx, dy, t⟩) HS7.out.1).grown (World.grownBy_alloc _ _ _), HKL.out, by rw [List.length_append, HLEN.out]; rfl, HS.out.first hrt (by dsimp only; rw [HLEN.out])⟩⟩
            case measure => simp [intOf]; omega
          · rcases ok with _ | _
            · go_wp2_with fail
              clear b0 b1 b2 b3 b4 z0 z1 z2 z3 z4 k0 k1 k2 k3 k4 hlk hlc
              have hy := HS.out.yes rfl
              refine (add_yes gb lb sb nb vb ls lbt lx ly lt _ HT6.out.b.mv (by have := hy.2.2.2.2.1; rw [HLEN.out] at this; omega) hy.1 (fun e => by
                have h1 := hy.2.2.2.1 e
                have h2 := hy.2.1
                dsimp only at h1 h2
                rw [HLEN.out] at h2
                exact newer_small h1.1 h1.2 (by omega))).mono ?_
              rintro e w7 ⟨rfl, vb7, h7, o7, f7⟩
              have HT7 := Lib.hid (HT6.out.swap.put f7 h7 o7).swap
              have hB7 := (HB6.out.swap.put f7 o7).swap
              have hK7 := (HK6.out.swap.put f7 o7).swap
              obtain ⟨b0, b1, b2, b3, b4⟩ := cm_cells hB7.blk
              obtain ⟨z0, z1, z2, z3, z4⟩ := cm_free hB7.blk
              obtain ⟨k0, k1, k2, k3, k4⟩ := cm_cells hK7.blk
              have HS7 := Lib.hid (cm_store hB7.blk n bt dx dy t)
              have HB7 := Lib.hid hB7
              clear h7 o7 f7 hB7 hK7 HT6 HB6 HK6 HT5 HB5 HK5 hy
              go_wp2_with fail
              go_roundw
              case rel => exact ⟨true, n + 1, k + 1, by omega, by omega, by omega, rfl, by go_num, by go_num, Lib.hid ⟨_, _, _, _, _, _, _, _, _, HT7.out.beside HB7.out HKL.out HS7.out.2, HB7.out.own (c' := ⟨n, bt, dx, dy, t⟩) HS7.out.1, HKL.out, by rw [List.length_append, HLEN.out]; rfl, HS.out.next hrt (by dsimp only; rw [HLEN.out])⟩⟩
              case measure => simp [intOf]; omega
            · have HS7 := Lib.hid (cm_store HB5.out.blk qs qb qx qy qt)
              go_wp2_with fail
              go_roundw
              case rel => exact ⟨true, n + 1, k + 1, by omega, by omega, by omega, rfl, by go_num, by go_num, Lib.hid ⟨_, _, _, _, _, _, _, _, _, (HT5.out.beside HB5.out HKL.out HS7.out.2).grown (World.grownBy_alloc _ _ _), (HB5.out.own (c' := ⟨qs, qb, qx, qy, qt⟩) HS7.out.1).grown (World.grownBy_alloc _ _ _), HKL.out, by rw [List.length_append, HLEN.out]; rfl, by
                have := HS.out.one hrt (by dsimp only; rw [HLEN.out]) HOK.out
                rw [HCB.out] at this
                exact this⟩⟩
              case measure => simp [intOf]; omega
      · rcases (show ¬ k < m ∨ (k < m ∧ k = 40) by omega) with h | ⟨h, rfl⟩
        all_goals
          clear hlt
          go_wp2_with fail
          go_meet
          exact ⟨sm, n, by omega, rfl, rfl, HP⟩
  case rest =>
    obtain ⟨sm, n, hn40, rfl, rfl, HP⟩ := hcut
    clear HP3
    go_upto_region 23 with (fail)
    go_cut [75] (fun s75 wx => s75 = .bool false ∧ Hid (Fin5 w wx ga gb))
    case first =>
      obtain ⟨la, sa, na, va, lb, sb, nb, vb, lc, hT, hB, hkl, hlen, hS⟩ := HP.out
      have HT := Lib.hid hT
      have HB := Lib.hid hB
      have HLEN := Lib.hid hlen
      have HS := Lib.hid hS
      clear hT hB hkl hlen hS HP
      obtain ⟨ls, lbt, lx, ly, lt⟩ := lc
      obtain ⟨b0, b1, b2, b3, b4⟩ := cm_cells HB.out.blk
      rcases sm with _ | _
      · go_wp2_with fail
        go_meet
        exact ⟨rfl, Lib.hid (by
          obtain ⟨e1, e2, _⟩ := HS.out.no rfl
          refine ⟨_, _, _, _, _, _, _, _, HT.out, by rw [HLEN.out]; omega, by rw [e1, e2]; exact Nat.le_refl _, HS.out.ra, HS.out.rb, by rw [e1, e2], by rw [e1, e2]⟩)⟩
      · go_wp2_with fail
        clear b0 b1 b2 b3 b4
        have hy := HS.out.yes rfl
        refine (add_yes gb lb sb nb vb ls lbt lx ly lt _ HT.out.b.mv (by have := hy.2.2.2.2.1; rw [HLEN.out] at this; omega) hy.1 (fun e => by
          have h1 := hy.2.2.2.1 e
          have h2 := hy.2.1
          dsimp only at h1 h2
          rw [HLEN.out] at h2
          exact newer_small h1.1 h1.2 (by omega))).mono ?_
        rintro e w7 ⟨rfl, vb7, h7, o7, f7⟩
        have HT7 := Lib.hid (HT.out.swap.put f7 h7 o7).swap
        have HY := Lib.hid hy
        clear h7 o7 f7 HT HB hy
        go_wp2_with fail
        go_meet
        exact ⟨rfl, Lib.hid ⟨_, _, _, _, _, _, _, _, HT7.out, by rw [HLEN.out]; omega, by rw [List.length_append]; exact HY.out.2.2.2.2.1, HS.out.ra, mem_snoc HS.out.rb HY.out.1, HY.out.2.2.2.2.2.1, by rw [sumT_snoc]; exact HY.out.2.2.2.2.2.2⟩⟩
    case rest =>
      obtain ⟨rfl, HF⟩ := hcut
      obtain ⟨la, sa, na, va, lb, sb, nb, vb, hT, hla, hlb, hra, hrb, hfold, hsum⟩ := HF.out
      have HT := Lib.hid hT
      have HRA := Lib.hid hra
      have HRB := Lib.hid hrb
      have HFO := Lib.hid hfold
      have HSU := Lib.hid hsum
      obtain ⟨na', hna⟩ : ∃ n, la.length = n := ⟨_, rfl⟩
      obtain ⟨nb', hnb⟩ : ∃ n, lb.length = n := ⟨_, rfl⟩
      rw [hna] at hla
      rw [hna, hnb] at hlb
      have HNA := Lib.hid hna
      have HNB := Lib.hid hnb
      clear hT hra hrb hfold hsum hna hnb HF HP
      go_wp2_with fail
      refine (saved_calls ga la sa na va (by rw [HNA.out]; omega) wc HT.out.a.mv).mono ?_
      rintro e w6 ⟨A6, q6, rfl, h6o, h6⟩
      have HT6 := Lib.hid (HT.out.grown h6)
      have HRW := Lib.hid (own_rg Cmd.cl_len (by decide) h6o)
      rw [HNA.out] at HRW
      rw [HNA.out]
      clear h6 h6o HT
      go_wp2_with fail
      go_loopw [13, 15] (fun nv i wr => ∃ j : Nat, j ≤ na' ∧ i = .int .i64 j ∧ nv = .int .i64 (sumT (la.take j)) ∧ Hid (wr = w6)) (fun _ i _ => na' - (intOf i).toNat)
      case atStart => exact ⟨0, by omega, rfl, rfl, Lib.hid rfl⟩
      case round =>
        obtain ⟨j, hj, rfl, rfl, HW⟩ := hrel
        obtain rfl := HW.out
        by_cases hlt : j < na'
        · obtain ⟨b, off, c, rfl, hb, hx, hr⟩ := HRW.out.at_ Cmd.cl_len hlt
          obtain ⟨sq, bt, dx, dy, t⟩ := c
          obtain ⟨c0, c1, c2, c3, c4⟩ := cmd_cells hr
          have hs := sumT_take la j _ hx
          dsimp only at hs
          have hbd := sumT_bd (la.take j) (fun c hc => HRA.out c (List.mem_of_mem_take hc))
          have hbl : (la.take j).length ≤ 40 := by rw [List.length_take, HNA.out]; omega
          have hbt := rightB_b (HRA.out _ (List.mem_of_getElem? hx))
          dsimp only at hbt
          obtain ⟨S, hS⟩ : ∃ S, sumT (la.take j) = S := ⟨_, rfl⟩
          rw [hS] at hs hbd
          rw [hS]
          have HSS := Lib.hid hs
          have hS1 : 0 ≤ S := hbd.1
          have hS2 : S ≤ 320 := by have := hbd.2; omega
          have ht1 : 1 ≤ t := hbt.2.1
          have ht2 : t ≤ 8 := hbt.2.2
          clear hr hx hb hs hS hbd hbl hbt
          go_wp2_with fail
          go_roundw
          case rel => exact ⟨j + 1, by omega, by go_num, by rw [HSS.out], Lib.hid (by trivial)⟩
          case measure => simp [intOf]; omega
        · obtain rfl : j = na' := by omega
          have hall : la.take j = la := List.take_of_length_le (by rw [HNA.out]; omega)
          rw [hall]
          have hbd := sumT_bd la HRA.out
          rw [HNA.out] at hbd
          obtain ⟨S, hS⟩ : ∃ S, sumT la = S := ⟨_, rfl⟩
          rw [hS] at hbd HSU
          rw [hS]
          have hS1 : 0 ≤ S := hbd.1
          have hS2 : S ≤ 320 := by have := hbd.2; omega
          clear hall hbd hS
          go_wp2_with fail
          refine (saved_calls gb lb sb nb vb (by rw [HNB.out]; omega) wr HT6.out.b.mv).mono ?_
          rintro e w8 ⟨A8, q8, rfl, h8o, h8⟩
          have HT8 := Lib.hid (HT6.out.grown h8)
          have HRV := Lib.hid (own_rg Cmd.cl_len (by decide) h8o)
          rw [HNB.out] at HRV
          rw [HNB.out]
          clear h8 h8o HT6 HRW
          go_wp2_with fail
          obtain ⟨wo, rfl⟩ : ∃ wo : World, wo = wr := ⟨_, rfl⟩
          go_loopw [13, 17] (fun nv i wr => ∃ z : Nat, z ≤ nb' ∧ i = .int .i64 z ∧ nv = .int .i64 (S - sumT (lb.take z)) ∧ Hid (wr = w8)) (fun _ i _ => nb' - (intOf i).toNat)
          case atStart => exact ⟨0, by omega, rfl, by simp [sumT], Lib.hid rfl⟩
          case round =>
            obtain ⟨z, hz, rfl, rfl, HW⟩ := hrel
            obtain rfl := HW.out
            by_cases hlt2 : z < nb'
            · obtain ⟨b, off, c, rfl, hb, hx, hr⟩ := HRV.out.at_ Cmd.cl_len hlt2
              obtain ⟨sq, bt, dx, dy, t⟩ := c
              obtain ⟨c0, c1, c2, c3, c4⟩ := cmd_cells hr
              have hs := sumT_take lb z _ hx
              dsimp only at hs
              have hbd := sumT_bd (lb.take z) (fun c hc => HRB.out c (List.mem_of_mem_take hc))
              have hbl : (lb.take z).length ≤ 40 := by rw [List.length_take, HNB.out]; omega
              have hbt := rightB_b (HRB.out _ (List.mem_of_getElem? hx))
              dsimp only at hbt
              obtain ⟨U, hU⟩ : ∃ U, sumT (lb.take z) = U := ⟨_, rfl⟩
              rw [hU] at hs hbd
              rw [hU]
              obtain ⟨D, hD⟩ : ∃ D, S - U = D := ⟨_, rfl⟩
              rw [hD]
              have hs2 : S - sumT (lb.take (z + 1)) = D - t := by rw [hs]; omega
              have HSS := Lib.hid hs2
              have hD1 : -320 ≤ D := by have := hbd.2; omega
              have hD2 : D ≤ 320 := by have := hbd.1; omega
              have ht1 : 1 ≤ t := hbt.2.1
              have ht2 : t ≤ 8 := hbt.2.2
              clear hr hx hb hs hs2 hU hbd hbl hbt hD
              go_wp2_with fail
              go_roundw
              case rel => exact ⟨z + 1, by omega, by go_num, by rw [HSS.out], Lib.hid (by trivial)⟩
              case measure => simp [intOf]; omega
            · obtain rfl : z = nb' := by omega
              have hall : lb.take z = lb := List.take_of_length_le (by rw [HNB.out]; omega)
              have hz0 : S - sumT (lb.take z) = 0 := by rw [hall, HSU.out]; omega
              rw [hz0]
              have HFB : Hid (lb.foldl ticksP ⟨0, 0, 0, 0⟩ = la.foldl ticksP ⟨0, 0, 0, 0⟩) := Lib.hid HFO.out.symm
              obtain ⟨p, hp⟩ : ∃ p, la.foldl ticksP ⟨0, 0, 0, 0⟩ = p := ⟨_, rfl⟩
              rw [hp] at HFB
              have HP := Lib.hid hp
              obtain ⟨px, py, ph, ps⟩ := p
              have heq := fun W => eql45 W px py ph ps
              clear hall hz0 hp
              go_wp2_with fail
              refine (replay23_calls 0 ga la sa na va 0 0 0 0 (by rw [HNA.out]; omega) _ HT8.out.a.mv HRA.out).mono ?_
              rintro e w9 ⟨rfl, h9⟩
              rw [HP.out]
              have HT9 := Lib.hid (HT8.out.grown h9)
              clear h9 HT8
              dsimp only [Pl.val]
              go_wp2_with fail
              refine (replay23_calls 0 gb lb sb nb vb 0 0 0 0 (by rw [HNB.out]; omega) _ HT9.out.b.mv HRB.out).mono ?_
              rintro e w10 ⟨rfl, h10⟩
              rw [HFB.out]
              have HT10 := Lib.hid (HT9.out.grown h10)
              clear h10 HT9
              dsimp only [Pl.val]
              go_wp2_with fail
              go_ret
              exact ⟨rfl, below_grown HT10.out.a.grown⟩
end Go.Proofs.Ytehlehfljgphkaa
