/-
  The law MovesLeft, walked.
-/
import Derived.Test.YtehlehfljgphkaaAcked
import Derived.Test.YtehlehfljgphkaaEq
import Derived.Test.YtehlehfljgphkaaL18
import Derived.Test.YtehlehfljgphkaaL25
import Derived.Test.YtehlehfljgphkaaL27
import Derived.Deep.DeepCutAuto
import Derived.Deep.CutBlock
import Derived.Deep.RegionWith
namespace Go.Proofs.Ytehlehfljgphkaa
open Go.RowKit

set_option maxRecDepth 100000 in
set_option maxHeartbeats 40000000 in
theorem left (first : Int) (A : Option Addr) (m cap : Nat) (l : List Cmd) (nn : Int) (w : World) (hm : m ≤ 9223372036854775807)
    (hR : Rc w w.heap.size A m l) :
    Calls Try.prog 6 #[.int .u16 first, .slice A m cap, .int .i64 nn] w fun e w' => e = .returned (.bool true) ∧ Below w.heap.size w w' := by
  have HR := Lib.hid hR
  clear hR
  go_enter Try.func6, Try.ntmps6
  go_wp2_with fail
  refine (shown_calls w).mono ?_
  rintro e w1 ⟨rfl, h1⟩
  have G1 := Lib.hid h1
  clear h1
  go_wp2_with fail
  refine (new_calls w1).mono ?_
  rintro e w2 ⟨rfl, rfl⟩
  go_upto_block 0 with (fail)
  have HS2 : Hid (Saving w ((w1.alloc (.cells #[.slice none 0 0, .bool false, .int .u16 0] 64)).alloc (.cells (plA 0 0 0 0) 45)) w1.heap.size (w1.heap.size + 1) first 0) := Lib.hid ⟨[], false, 0, .slice none 0 0,
    ⟨only_trans G1.out (only_trans (World.grownBy_alloc w1 (.cells #[.slice none 0 0, .bool false, .int .u16 0] 64) none) (World.grownBy_alloc _ _ _)), G1.out.size, (Mv.new w1).grown (World.grownBy_alloc _ _ _)⟩, rfl, fun i c h => by simp at h, by simp, ⟨by
      have := Blk.new (w1.alloc (.cells #[.slice none 0 0, .bool false, .int .u16 0] 64)) 45 (plA 0 0 0 0)
      rwa [World.size_alloc] at this, by omega, by simp [Value.ownBlock]⟩, by have := G1.out.size; omega⟩
  obtain ⟨w2, hw2⟩ : ∃ w2, (w1.alloc (.cells #[.slice none 0 0, .bool false, .int .u16 0] 64)).alloc (.cells (plA 0 0 0 0) 45) = w2 := ⟨_, rfl⟩
  obtain ⟨g, hg⟩ : ∃ g, w1.heap.size = g := ⟨_, rfl⟩
  obtain ⟨ga, hga⟩ : ∃ ga, g + 1 = ga := ⟨_, rfl⟩
  rw [hw2, hg, hga] at HS2
  rw [hw2, hg, hga]
  clear hw2 hg hga G1
  go_cut [10] (fun cv wx => ∃ cnt : Nat, cnt ≤ 60 ∧ cv = .int .i64 cnt ∧ Hid (Saving w wx g ga first cnt))
  case first =>
    go_wp2_with fail
    go_loopw [10, 11] (fun cv i wr => ∃ cnt k : Nat, k ≤ m ∧ k ≤ 60 ∧ cnt ≤ k ∧ cv = .int .i64 cnt ∧ i = .int .i64 k ∧ Hid (Saving w wr g ga first cnt)) (fun _ i _ => m - (intOf i).toNat)
    case atStart => exact ⟨0, 0, by omega, by omega, by omega, rfl, rfl, HS2⟩
    case round =>
      obtain ⟨cnt, k, hk, hk60, hcnt, rfl, rfl, HS⟩ := hrel
      obtain ⟨lst, s, last, v, hO, hlen, hsq, hnw, hB, hge⟩ := HS.out.ex
      have HO := Lib.hid hO
      have HLEN := Lib.hid hlen
      have HSQ := Lib.hid hsq
      have HNW := Lib.hid hnw
      have HB := Lib.hid hB
      have HGE := Lib.hid hge
      clear hO hlen hsq hnw hB hge HS
      by_cases hlt : k < m ∧ k < 60
      · obtain ⟨hlt, hlt60⟩ := hlt
        obtain ⟨b, off, c, rfl, hb, hx, hr⟩ := HR.out.at_ Cmd.cl_len hlt
        obtain ⟨sq, bt, dx, dy, t⟩ := c
        obtain ⟨c0, c1, c2, c3, c4⟩ := cmd_cells (w := wr) (fun j u hu => HO.out.grown.cell (hr j u hu) (by simp))
        obtain ⟨n0, hn0⟩ : ∃ n0, (first + cnt) % 65536 = n0 := ⟨_, rfl⟩
        have en1 : IntKind.u16.wrap (first + IntKind.u16.wrap (cnt : Int)) = n0 := by rw [IntKind.wrap_u16, IntKind.wrap_u16, ← hn0]; omega
        have en2 : IntKind.u16.wrap (first + (cnt : Int)) = n0 := by rw [IntKind.wrap_u16, ← hn0]
        rw [hn0] at HNW
        have HN0 := Lib.hid hn0
        clear hr hx hb hn0
        rcases hrt : rightB ⟨n0, bt, dx, dy, t⟩ with _ | _
        · go_wp2_with (go_at_call 22; refine (refright_calls _ _ _ _ _ _).mono ?_; rintro e w1 ⟨rfl, rfl⟩)
          go_roundw
          case rel => exact ⟨cnt, k + 1, by omega, by omega, by omega, rfl, by go_num, Lib.hid ⟨lst, s, last, v, HO.out.grown_ (by repeat (first | exact World.grownBy.refl _ _ | refine only_trans ?_ (World.grownBy_alloc _ _ none))), HLEN.out, HSQ.out, by rw [HN0.out]; exact HNW.out, HB.out.grown (by repeat (first | exact World.grownBy.refl _ _ | refine only_trans ?_ (World.grownBy_alloc _ _ none))), HGE.out⟩⟩
          case measure => simp [intOf]; omega
        · go_wp2_with (go_at_call 22; refine (refright_calls _ _ _ _ _ _).mono ?_; rintro e w1 ⟨rfl, rfl⟩)
          clear c0 c1 c2 c3 c4 en1 en2
          have hbes : Besides ((wr.alloc (.cells #[.int .u16 n0, .int .u8 bt, .int .i8 dx, .int .i8 dy, .int .i64 t] 33)).alloc (.cells #[.int .u16 n0, .int .u8 bt, .int .i8 dx, .int .i8 dy, .int .i64 t] 33)) wr.heap.size g v 33 #[.int .u16 n0, .int .u8 bt, .int .i8 dx, .int .i8 dy, .int .i64 t] :=
            ⟨(Blk.new wr 33 _).alloc _, fun e => by have := HO.out.mv.blk.lt; omega, fun e => by have := (HO.out.mv.row_lt _ e).1; omega⟩
          have hgr : wr.grownBy ((wr.alloc (.cells #[.int .u16 n0, .int .u8 bt, .int .i8 dx, .int .i8 dy, .int .i64 t] 33)).alloc (.cells #[.int .u16 n0, .int .u8 bt, .int .i8 dx, .int .i8 dy, .int .i64 t] 33)) none := by repeat (first | exact World.grownBy.refl _ _ | refine only_trans ?_ (World.grownBy_alloc _ _ none))
          have HO3 := Lib.hid (HO.out.grown_ hgr)
          have HB3 := Lib.hid (HB.out.grown hgr)
          have HC3 := Lib.hid hbes
          clear hbes hgr HO HB
          obtain ⟨w3, hw3⟩ : ∃ w3, (wr.alloc (.cells #[.int .u16 n0, .int .u8 bt, .int .i8 dx, .int .i8 dy, .int .i64 t] 33)).alloc (.cells #[.int .u16 n0, .int .u8 bt, .int .i8 dx, .int .i8 dy, .int .i64 t] 33) = w3 := ⟨_, rfl⟩
          obtain ⟨kc, hkc⟩ : ∃ kc, wr.heap.size = kc := ⟨_, rfl⟩
          rw [hw3] at HO3 HB3 HC3
          rw [hkc] at HC3
          rw [hw3, hkc]
          clear hw3 hkc
          refine (add_yes g lst s last v n0 bt dx dy t w3 HO3.out.mv (by rw [HLEN.out]; omega) hrt HNW.out).mono ?_
          rintro e w4 ⟨rfl, v4, h4, o4, f4⟩
          have HO4 := Lib.hid (HO3.out.frm f4 h4)
          have HB4 := Lib.hid (HB3.out.frm f4 o4)
          have hC4 := HC3.out.frm f4 o4
          obtain ⟨p, hp⟩ : ∃ p, lst.foldl (stepP 0) ⟨0, 0, 0, 0⟩ = p := ⟨_, rfl⟩
          rw [hp] at HB4
          have HP := Lib.hid hp
          obtain ⟨px, py, ph, ps⟩ := p
          obtain ⟨c0, c1, c2, c3, c4⟩ := cm_cells hC4.1
          obtain ⟨d0, d1, d2, d3, d4, d5, d6, d7, d8, d9, d10, d11, d12, d13, d14⟩ := pl_cells HB4.out.1
          clear h4 o4 f4 hC4 HO3 HB3 HC3 hp
          go_wp2_with fail
          clear c0 c1 c2 c3 c4 d0 d1 d2 d3 d4 d5 d6 d7 d8 d9 d10 d11 d12 d13 d14
          refine (step_calls 0 px py ph ps n0 bt dx dy t w4).mono ?_
          rintro e w5 ⟨rfl, h5⟩
          obtain ⟨qx, hqx⟩ : ∃ q, stX px dx t = q := ⟨_, rfl⟩
          obtain ⟨qy, hqy⟩ : ∃ q, stX py dy t = q := ⟨_, rfl⟩
          obtain ⟨qh, hqh⟩ : ∃ q, stH ph 0 = q := ⟨_, rfl⟩
          obtain ⟨qs, hqs⟩ : ∃ q, stS ps n0 t = q := ⟨_, rfl⟩
          have HQ : Hid ((lst ++ [(⟨n0, bt, dx, dy, t⟩ : Cmd)]).foldl (stepP 0) ⟨0, 0, 0, 0⟩ = ⟨qx, qy, qh, qs⟩) := Lib.hid (by
            rw [List.foldl_append, HP.out, ← hqx, ← hqy, ← hqh, ← hqs]; rfl)
          rw [hqx, hqy, hqh, hqs]
          have HO5 := Lib.hid (HO4.out.grown_ h5)
          have hB5 := HB4.out.grown h5
          obtain ⟨d0, d1, d2, d3, d4, d5, d6, d7, d8, d9, d10, d11, d12, d13, d14⟩ := pl_cells hB5.1
          obtain ⟨e0, e1, e2, e3, e4, e5, e6, e7, e8, e9, e10, e11, e12, e13, e14⟩ := pl_free hB5.1
          have HB5 := Lib.hid hB5
          have HS5 := Lib.hid (pl_store hB5.1 qx qy qh qs)
          clear h5 hB5 hqx hqy hqh hqs HO4 HB4
          go_wp2_with fail
          clear d0 d1 d2 d3 d4 d5 d6 d7 d8 d9 d10 d11 d12 d13 d14 e0 e1 e2 e3 e4 e5 e6 e7 e8 e9 e10 e11 e12 e13 e14
          go_roundw
          case rel => exact ⟨cnt + 1, k + 1, by omega, by omega, by omega, by go_num, by go_num, Lib.hid ⟨lst ++ [⟨n0, bt, dx, dy, t⟩], true, n0, v4,
            HO5.out.beside HB5.out HGE.out HS5.out.2, by rw [List.length_append, HLEN.out]; rfl, HSQ.out.snoc _ (by dsimp only; rw [HLEN.out, ← HN0.out, Nat.zero_add]), fun _ => by rw [← HN0.out]; exact newer_next cnt, by
              rw [HQ.out]; exact HB5.out.own HS5.out.1, HGE.out⟩⟩
          case measure => simp [intOf]; omega
      · rcases (show ¬ k < m ∨ (k < m ∧ k = 60) by omega) with h | ⟨h, rfl⟩
        all_goals
          have HS6 : Hid (Saving w wr g ga first cnt) := Lib.hid ⟨lst, s, last, v, HO.out, HLEN.out, HSQ.out, HNW.out, HB.out, HGE.out⟩
          clear hlt HO HLEN HSQ HNW HB HGE
          go_wp2_with fail
          go_meet
          exact ⟨cnt, by omega, rfl, HS6⟩
  case rest =>
    obtain ⟨cnt, hcnt, rfl, HS⟩ := hcut
    obtain ⟨lst, s, last, v, hO, hlen, hsq, hnw, hB, hge⟩ := HS.out.ex
    have HO := Lib.hid hO
    have HLEN := Lib.hid hlen
    have HSQ := Lib.hid hsq
    have HB := Lib.hid hB
    have HGE := Lib.hid hge
    clear hO hlen hsq hnw hB hge HS HS2
    go_wp2_with fail
    refine (saved_calls g lst s last v (by rw [HLEN.out]; omega) wc HO.out.mv).mono ?_
    rintro e w6 ⟨A6, q6, rfl, h6o, h6⟩
    have HO6 := Lib.hid (HO.out.grown_ h6)
    have HB6 := Lib.hid (HB.out.grown h6)
    have HRW := Lib.hid (own_rg Cmd.cl_len (by decide) h6o)
    rw [HLEN.out] at HRW
    rw [HLEN.out]
    obtain ⟨p, hp⟩ : ∃ p, lst.foldl (stepP 0) ⟨0, 0, 0, 0⟩ = p := ⟨_, rfl⟩
    rw [hp] at HB6
    have HP := Lib.hid hp
    obtain ⟨px, py, ph, ps⟩ := p
    clear h6 h6o HO HB hp
    go_wp2_with fail
    refine leaves_post (r18 HO6 HB6 HLEN hcnt HP) ?_
    intro w7 HG7
    simp only [puts]
    go_simp
    have ec1 : bits .and .i64 nn 65535 = nn % 65536 := i64_andFFFF nn
    obtain ⟨qn, hqn⟩ : ∃ q, nn % 65536 = q := ⟨_, rfl⟩
    have hqn0 : 0 ≤ qn ∧ qn < 65536 := by omega
    rw [hqn] at ec1
    obtain ⟨nz, hnz⟩ : ∃ nz : Nat, qn % ((cnt : Int) + 1) = (nz : Int) := ⟨(qn % ((cnt : Int) + 1)).toNat, by have := Int.emod_nonneg qn (show (cnt : Int) + 1 ≠ 0 by omega); omega⟩
    have hnzc : nz ≤ cnt := by have := Int.emod_lt_of_pos qn (show 0 < (cnt : Int) + 1 by omega); omega
    have ec2 : qn.tmod ((cnt : Int) + 1) = (nz : Int) := by rw [Int.tmod_eq_emod_of_nonneg hqn0.1]; exact hnz
    clear hqn hnz
    go_wp2_with fail
    clear ec1 ec2 hqn0
    have HO8 := Lib.hid (HO6.out.grown_ (only_trans HG7.out (World.grownBy_alloc w7 (.cells (plA 0 0 0 0) 45) none)))
    have HB8 := Lib.hid (HB6.out.grown (only_trans HG7.out (World.grownBy_alloc w7 (.cells (plA 0 0 0 0) 45) none)))
    have HR8 := Lib.hid (HRW.out.grown (only_trans HG7.out (World.grownBy_alloc w7 (.cells (plA 0 0 0 0) 45) none)) (Nat.le_refl _) (by simp))
    have hlt7 := HG7.out.size
    have HT8 : Hid (Besides (w7.alloc (.cells (plA 0 0 0 0) 45)) w7.heap.size g v 45 (plA 0 0 0 0)) :=
      Lib.hid ⟨Blk.new w7 45 _, fun e => by have := HO6.out.mv.blk.lt; omega, fun e => by have := (HO6.out.mv.row_lt _ e).1; omega⟩
    have hga : ga < w7.heap.size := by have := HB6.out.1.lt; omega
    obtain ⟨w8, hw8⟩ : ∃ w8, w7.alloc (.cells (plA 0 0 0 0) 45) = w8 := ⟨_, rfl⟩
    obtain ⟨kt, hkt⟩ : ∃ kt, w7.heap.size = kt := ⟨_, rfl⟩
    rw [hw8] at HO8 HB8 HR8 HT8
    rw [hkt] at HT8 hga hlt7
    rw [hw8, hkt]
    have HGA := Lib.hid hga
    have HLT := Lib.hid hlt7
    have HKT : Hid (w.heap.size ≤ kt) := Lib.hid (by have := HO6.out.grown.size; omega)
    clear hw8 hkt hga hlt7 HG7 HO6 HB6 HRW
    go_loopw [15] (fun i wr => ∃ j : Nat, j ≤ nz ∧ i = .int .i64 j ∧ Hid (w8.grownBy wr (some kt)) ∧ Hid (∃ q : Pl, (lst.take j).foldl (stepP 0) ⟨0, 0, 0, 0⟩ = q ∧ Blk wr kt 45 (plA q.x q.y q.h q.s))) (fun i _ => nz - (intOf i).toNat)
    case atStart => exact ⟨0, by omega, rfl, Lib.hid (World.grownBy.refl w8 _), Lib.hid ⟨⟨0, 0, 0, 0⟩, rfl, HT8.out.1⟩⟩
    case round =>
      obtain ⟨j, hj, rfl, HGW, HQ⟩ := hrel
      obtain ⟨⟨ax, ay, ah, as_⟩, hfold, hblk⟩ := HQ.out
      have HF := Lib.hid hfold
      have HK := Lib.hid hblk
      clear hfold hblk HQ
      by_cases hlt : j < nz
      · obtain ⟨b, off, c, rfl, hb, hx, hr⟩ := HR8.out.at_ Cmd.cl_len (show j < cnt by omega)
        obtain ⟨sq, bt, dx, dy, t⟩ := c
        have HCC := Lib.hid (show wr.rangeAt b (off + j * 5) (Cmd.cl ⟨sq, bt, dx, dy, t⟩) from fun j' u hu => HGW.out.cell (hr j' u hu) (by have := HLT.out; simp; omega))
        have hjc2 : j < cnt := by omega
        have HX := Lib.hid hx
        obtain ⟨qx, hqx⟩ : ∃ q, stX ax dx t = q := ⟨_, rfl⟩
        obtain ⟨qy, hqy⟩ : ∃ q, stX ay dy t = q := ⟨_, rfl⟩
        obtain ⟨qh, hqh⟩ : ∃ q, stH ah 0 = q := ⟨_, rfl⟩
        obtain ⟨qs, hqs⟩ : ∃ q, stS as_ sq t = q := ⟨_, rfl⟩
        have HN : Hid ((lst.take (j + 1)).foldl (stepP 0) ⟨0, 0, 0, 0⟩ = ⟨qx, qy, qh, qs⟩) := Lib.hid (by
          rw [List.take_add_one, HX.out, List.foldl_append, HF.out, ← hqx, ← hqy, ← hqh, ← hqs]; rfl)
        have HST : Hid (∀ W, Calls Try.prog 18 #[mapV 0, .agg (plA ax ay ah as_), .agg #[.int .u16 sq, .int .u8 bt, .int .i8 dx, .int .i8 dy, .int .i64 t]] W fun e w' => e = .returned (.agg (plA qx qy qh qs)) ∧ W.grownBy w' none) := Lib.hid (fun W => by
          have := step_calls 0 ax ay ah as_ sq bt dx dy t W
          rwa [hqx, hqy, hqh, hqs] at this)
        clear hr hx hb hqx hqy hqh hqs
        go_wp2_with fail
        refine leaves_post (r25 HK HCC hjc2 HST) ?_
        intro w9 H9
        simp only [puts]
        go_simp
        go_wp2_with fail
        go_roundw
        case rel => exact ⟨j + 1, by omega, by go_num, Lib.hid (World.grownBy.trans HGW.out H9.out.1), Lib.hid ⟨⟨qx, qy, qh, qs⟩, HN.out, H9.out.2⟩⟩
        case measure => simp [intOf]; omega
      · obtain rfl : j = nz := by omega
        obtain ⟨r, hr⟩ : ∃ r, (first + j) % 65536 = r := ⟨_, rfl⟩
        have er1 : IntKind.u16.wrap (first + IntKind.u16.wrap (j : Int)) = r := by rw [IntKind.wrap_u16, IntKind.wrap_u16, ← hr]; omega
        have er2 : IntKind.u16.wrap (first + (j : Int)) = r := by rw [IntKind.wrap_u16, ← hr]
        obtain ⟨q, hq⟩ : ∃ q, (first + j - 1) % 65536 = q := ⟨_, rfl⟩
        have eq1 : IntKind.u16.wrap (r - 1) = q := by rw [IntKind.wrap_u16, ← hq, ← hr]; omega
        obtain ⟨q0, hq0⟩ : ∃ q, (first - 1) % 65536 = q := ⟨_, rfl⟩
        have eq2 : IntKind.u16.wrap (first - 1) = q0 := by rw [IntKind.wrap_u16, ← hq0]
        have hak : ackN q lst = j := by
          have := HSQ.out.ackN_ j (by rw [HLEN.out]; omega) (by omega)
          rw [hq, HLEN.out] at this
          omega
        have hak0 : ackN q0 (lst.drop j) = 0 := by
          have := (HSQ.out.drop j).ackN_ 0 (by rw [List.length_drop, HLEN.out]; omega) (by omega)
          have e : (first + ((0 : Nat) : Int) - 1) % 65536 = q0 := by rw [← hq0]; congr 1; simp
          rw [e] at this
          omega
        have HAK := Lib.hid hak
        have HAK0 := Lib.hid hak0
        have hO9 : Own w wr g lst s last v := HO8.out.beside HT8.out HKT.out HGW.out
        have hB9 : Besides wr ga g v 45 (plA px py ph ps) := ⟨HB8.out.1.grown HGW.out (by have := HGA.out; simp; omega), HB8.out.2⟩
        have hT9 : Besides wr kt g v 45 (plA ax ay ah as_) := ⟨HK.out, HT8.out.2⟩
        have HO9 := Lib.hid hO9
        have HB9 := Lib.hid hB9
        have HT9 := Lib.hid hT9
        clear hr hq hq0 hak hak0 hO9 hB9 hT9 HO8 HB8 HR8 HT8 HGW HK HGA HLT
        go_wp2_with fail
        clear er1 er2 eq1
        refine (acked_calls g lst s last q v (by rw [HLEN.out]; omega) wr HO9.out.mv).mono ?_
        rintro e w10 ⟨rfl, v10, h10, o10, f10⟩
        rw [HAK.out] at h10
        rw [HAK.out]
        have HO10 := Lib.hid (HO9.out.frm f10 h10)
        have HB10 := Lib.hid (HB9.out.frm f10 (.inl o10))
        have HT10 := Lib.hid (HT9.out.frm f10 (.inl o10))
        obtain ⟨n5, hn5⟩ : ∃ n5, cnt - j = n5 := ⟨_, rfl⟩
        have HL10 : Hid ((lst.drop j).length = n5) := Lib.hid (by rw [List.length_drop, HLEN.out, hn5])
        have es1 : IntKind.i64.wrap ((cnt : Int) - j) = (n5 : Int) := by rw [IntWalk.i64_in _ (by omega)]; omega
        have es2 : (cnt : Int) - j = (n5 : Int) := by omega
        have HFR : Hid ((lst.drop j).foldl (stepP 0) ⟨ax, ay, ah, as_⟩ = ⟨px, py, ph, ps⟩) := Lib.hid (by
          rw [← HF.out, ← List.foldl_append, List.take_append_drop]; exact HP.out)
        have n60 : n5 ≤ 60 := by omega
        clear h10 o10 f10 HO9 HB9 HT9 hn5
        have HES := Lib.hid es1
        have HES2 := Lib.hid es2
        have HEQ2 := Lib.hid eq2
        clear es1 es2 eq2
        go_wp2_with fail
        refine post_any fun Q0 hn hp => r27 HO10 HB10 HT10 HL10 HFR n60 HAK0 HEQ2.out HES.out HES2.out Q0 (fun _ _ _ _ _ _ _ _ _ _ _ _ _ _ _ _ _ _ _ _ _ _ _ _ _ _ _ _ _ _ w' HW => hn _ _ ?_) hp
        go_wp2_with fail
        go_ret
        exact ⟨rfl, below_grown HW.out⟩
end Go.Proofs.Ytehlehfljgphkaa
