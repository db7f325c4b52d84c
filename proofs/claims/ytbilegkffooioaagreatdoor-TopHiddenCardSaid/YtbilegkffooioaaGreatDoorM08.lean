/-
  **view.Sees.**
-/
import Derived.Test.YtbilegkffooioaaGreatDoorM07
namespace Go.Proofs.YtbilegkffooioaaGreatDoor
open Go.RowKit

theorem Tryz.size26 : (Tryz.prog.info? 26).map (·.size) = some 2 := by kernel_rfl
/-- What Sees leaves. -/
def SeesOut (id budget : Int) (ps : List Pl) (ss : List Sh) (w : World) (e : Ending) (w' : World) : Prop :=
  ∃ A1 n1 c1 A2 n2 c2 os oh, e = .returned (.agg #[.slice A1 n1 c1, .slice A2 n2 c2]) ∧ w.grownBy w' none ∧ Rg 15 Pl.cl w' w'.heap.size A1 n1 os ∧ Rg 11 Sh.cl w' w'.heap.size A2 n2 oh ∧ SeesPost farF id (max budget 1).toNat ps ss os oh

/-- The world in which Sees begins. -/
def SvV (w : World) (id : Int) (sp ss : Value) : World := ((w.alloc (.cells #[.int .i64 id] 3)).alloc (.cells #[sp, ss] 26)).alloc (.cells #[.slice none 0 0, .slice none 0 0] 26)
theorem svV_grown (w : World) (id : Int) (sp ss : Value) : w.grownBy (SvV w id sp ss) none := ((World.grownBy_alloc _ _ none).trans (World.grownBy_alloc _ _ none)).trans (World.grownBy_alloc _ _ none)
theorem svV_blks (w : World) (id : Int) (sp ss : Value) : Blk (SvV w id sp ss) w.heap.size 3 #[.int .i64 id] ∧ Blk (SvV w id sp ss) (w.heap.size + 1) 26 #[sp, ss] ∧ Blk (SvV w id sp ss) (w.heap.size + 1 + 1) 26 #[.slice none 0 0, .slice none 0 0] ∧ (SvV w id sp ss).heap.size = w.heap.size + 1 + 1 + 1 := by
  have e1 : (w.alloc (.cells #[.int .i64 id] 3)).heap.size = w.heap.size + 1 := by simp
  have e2 : ((w.alloc (.cells #[.int .i64 id] 3)).alloc (.cells #[sp, ss] 26)).heap.size = w.heap.size + 1 + 1 := by simp
  have h1 := ((Blk.new w 3 #[.int .i64 id]).alloc (.cells #[sp, ss] 26)).alloc (.cells #[.slice none 0 0, .slice none 0 0] 26)
  have h2 := (Blk.new (w.alloc (.cells #[.int .i64 id] 3)) 26 #[sp, ss]).alloc (.cells #[.slice none 0 0, .slice none 0 0] 26)
  have h3 := Blk.new ((w.alloc (.cells #[.int .i64 id] 3)).alloc (.cells #[sp, ss] 26)) 26 #[.slice none 0 0, .slice none 0 0]
  rw [e1] at h2
  rw [e2] at h3
  exact ⟨h1, h2, h3, by simp [SvV]⟩
/-- Where the gathering begins. -/
theorem seesSt_start {w w1 : World} {id : Int} {sp ss : Value} (me : Nat) (hg : (SvV w id sp ss).grownBy w1 none) :
    SeesSt w ((w1.alloc (.cells #[.int .i64 me] 3)).alloc (.cells #[.slice none 0 0] 95)) w1.heap.size id me sp ss (.slice none 0 0) [] := by
  obtain ⟨h1, h2, h3, h4⟩ := svV_blks w id sp ss
  have e1 : (w1.alloc (.cells #[.int .i64 me] 3)).heap.size = w1.heap.size + 1 := by simp
  have hb8 := Blk.new (w1.alloc (.cells #[.int .i64 me] 3)) 95 #[.slice none 0 0]
  rw [e1] at hb8
  have hs := hg.size
  exact ⟨(((svV_grown w id sp ss).trans hg).trans (World.grownBy_alloc _ _ none)).trans (World.grownBy_alloc _ _ none), ((h1.grown hg (by simp)).alloc _).alloc _, ((h2.grown hg (by simp)).alloc _).alloc _, ((h3.grown hg (by simp)).alloc _).alloc _, (Blk.new w1 3 _).alloc _, hb8, World.ownsRow_nil _ _ 97 4, by omega, by simp⟩

theorem grown_ad (w : World) (o : Obj) : w.grownBy (w.drew.alloc o) none := drew_grown (World.grownBy_alloc w.drew o none)
theorem grown_da (w : World) (o : Obj) : w.grownBy (w.alloc o).drew none := grown_drew (World.grownBy_alloc w o none)
theorem rg_lit_da {α : Type} {sz : Nat} {cl : α → List Value} (w : World) (x : α) (t : TypeId) {cs : Array Value} {g : Nat} (hg : w.heap.size = g) (hcs : cs = (cl x).toArray) : Rg sz cl (w.alloc (.cells cs t)).drew (g + 1) (some ⟨g, 0, none⟩) 1 [x] :=
  (rg_lit_at w x t hg hcs).keep fun _ _ => rfl
theorem rg_lit_ad {α : Type} {sz : Nat} {cl : α → List Value} (w : World) (x : α) (t : TypeId) {cs : Array Value} {g : Nat} (hg : w.heap.size = g) (hcs : cs = (cl x).toArray) : Rg sz cl (w.drew.alloc (.cells cs t)) (g + 1) (some ⟨g, 0, none⟩) 1 [x] :=
  rg_lit_at w.drew x t hg hcs
theorem grown_aad (w : World) (a b : Obj) : w.grownBy ((w.alloc a).alloc b).drew none := grown_drew ((World.grownBy_alloc _ _ none).trans (World.grownBy_alloc _ _ none))
theorem grown_ada (w : World) (a b : Obj) : w.grownBy ((w.alloc a).drew.alloc b) none := (World.grownBy_alloc w a none).trans (grown_ad _ b)
/-- A frame, some slots written. -/
def puts (a : Act) : List (Nat × Value) → Act
  | [] => a
  | x :: r => puts (a.put (some x.1) x.2) r
/-- What a region leaves, where it does not panic. -/
def LeavesE (F : Option Addr → Nat → Act) (I : Option Addr → Nat → World → Prop) : Exit → Act → World → Prop
  | .normal, a, w => ∃ A c, a = F A c ∧ I A c w
  | _, _, _ => False
theorem LeavesE.mk {F : Option Addr → Nat → Act} {I : Option Addr → Nat → World → Prop} {a : Act} {w : World} (A : Option Addr) (c : Nat) (ha : a = F A c) (hi : I A c w) : LeavesE F I .normal a w := ⟨A, c, ha, hi⟩
/-- A region by what it leaves. -/
theorem region_leaves {P : Program} {id : Nat} {ops : Array Oper} {m : Bool} {Q : Exit → Act → World → Prop} {a : Act} {w : World} (l : Option Addr → Nat → List (Nat × Value)) (I : Option Addr → Nat → World → Prop)
    (h : (Code.region id ops m).wp P (LeavesE (fun A c => puts a (l A c)) I) a w) (hq : ∀ A c w', I A c w' → Q .normal (puts a (l A c)) w') : (Code.region id ops m).wp P Q a w :=
  Code.wp_mono (fun e a' w' h => by
    cases e with
    | normal => obtain ⟨A, c, ha, hi⟩ := h; subst ha; exact hq A c w' hi
    | _ => exact h.elim) h
theorem own_cap {w : World} {base g n c sz : Nat} {e : TypeId} {xs : List Value} (h : w.ownsRow base e sz (.slice (some ⟨g, 0, none⟩) n c) n xs) : n ≤ c := by
  rcases h.2 with ⟨hv, _⟩ | ⟨g', cap', cur, hv, hb, hh, hn, hm, hs, ht⟩
  · cases hv
  · injection hv with h1 h2 h3
    subst h3
    exact hn
theorem plsSeen_succ (F : V3 → V3 → Int) (mi : Nat) (mp : V3) (ps : List Pl) (k : Nat) : plsSeen F mi mp ps (k + 1) = plsSeen F mi mp ps k ++ plSeen F mi mp k ps[k]! := by
  unfold plsSeen; rw [List.range_succ, List.flatMap_append]; simp
theorem shsSeen_succ (F : V3 → V3 → Int) (id : Int) (mp : V3) (ss : List Sh) (k : Nat) : shsSeen F id mp ss (k + 1) = shsSeen F id mp ss k ++ shSeen F id mp k ss[k]! := by
  unfold shsSeen; rw [List.range_succ, List.flatMap_append]; simp
theorem plsSeen_le (F : V3 → V3 → Int) (mi : Nat) (mp : V3) (ps : List Pl) (k : Nat) : (plsSeen F mi mp ps k).length ≤ k := flat_le (fun i => (plSeen_one i _).2) k
theorem shsSeen_le (F : V3 → V3 → Int) (id : Int) (mp : V3) (ss : List Sh) (k : Nat) : (shsSeen F id mp ss k).length ≤ k := flat_le (fun i => (shSeen_one i _).2) k

set_option maxHeartbeats 8000000 in
set_option maxRecDepth 1000000 in
/-- **Sees.** -/
theorem sees_calls (B np cp ns cs : Nat) (Ap As : Option Addr) (ps : List Pl) (ss : List Sh) (id budget : Int) (hnp : np ≤ 8) (hns : ns ≤ 30) (hP : ∀ p ∈ ps, V64 p.pos) (hS : ∀ s ∈ ss, V64 s.pos) (w : World)
    (hp : Rg 15 Pl.cl w B Ap np ps) (hs : Rg 11 Sh.cl w B As ns ss) (hB : B ≤ w.heap.size) :
    Calls Tryz.prog 7 #[.int .i64 id, .agg #[.slice Ap np cp, .slice As ns cs], .int .i64 budget] w (SeesOut id budget ps ss w) := by
  have HP := Lib.hid hp
  have HSH := Lib.hid hs
  have HVP := Lib.hid hP
  have HVS := Lib.hid hS
  have HB := Lib.hid hB
  have HV := Lib.hid (svV_blks w id (.slice Ap np cp) (.slice As ns cs))
  have HI : Hid (Calls Tryz.prog 33 #[.slice Ap np cp, .func (.func 34) #[] #[.pointer (some ⟨w.heap.size, 0, none⟩)]] (SvV w id (.slice Ap np cp) (.slice As ns cs)) fun e w' => e = .returned (.int .i64 (meI ps id)) ∧ (SvV w id (.slice Ap np cp) (.slice As ns cs)).grownBy w' none) :=
    Lib.hid (index_calls B np cp w.heap.size Ap id ps (by omega) _ (hp.grown (svV_grown _ _ _ _) hB (by simp)) (Nat.le_trans hB (svV_grown _ _ _ _).size) (HV.out.1.cell 0))
  have HR : Hid (∀ e w', SeesOut id budget ps ss w e w' → SeesOut id budget ps ss w e w') := Lib.hid fun _ _ h => h
  clear hp hs hP hS hB
  unfold meI at HI
  rcases hfi : ps.findIdx? (fun p => p.id == id) with _ | me
  · rw [hfi] at HI
    have HFI := Lib.hid hfi
    clear hfi
    go_enter Tryz.func7, Tryz.ntmps7
    go_wp2_with fail
    refine HI.out.mono ?_
    rintro e w1 ⟨rfl, hg⟩
    have HG1 := Lib.hid hg
    have hb6 := (HV.out.2.2.1.grown hg (by simp)).alloc (.cells #[.int .i64 (-1)] 3)
    have d0 := hb6.cell 0
    have d1 := hb6.cell 1
    have f0 := hb6.free 0
    have f1 := hb6.free 1
    have HB6 := Lib.hid hb6
    clear hg hb6
    go_wp2_with fail
    have hb6 := (HB6.out.put 0 (.slice none 0 0)).put 1 (.slice none 0 0)
    refine bodyPost_ret (results_cell_row (cs := #[.slice none 0 0, .slice none 0 0]) rfl _ _ (w.heap.size + 1 + 1) 26 (0, 0) _ rfl hb6 Tryz.underlying26 rfl Tryz.size26) rfl ?_
    refine ⟨none, 0, 0, none, 0, 0, [], [], rfl, set_lo (set_lo (((svV_grown w id _ _).trans HG1.out).trans (World.grownBy_alloc _ _ none)) (by omega) 0 _) (by omega) 1 _, Rg.nil_ _ _ _, Rg.nil_ _ _ _, ?_⟩
    unfold SeesPost
    rw [HFI.out]
    exact ⟨rfl, rfl⟩
  · rw [hfi] at HI
    obtain ⟨hml, hm1, hm2⟩ := List.findIdx?_eq_some_iff_getElem.1 hfi
    have hmn : me < np := by rw [HP.out.1] at hml; exact hml
    have HFI := Lib.hid hfi
    have hnn : ¬ ((me : Int) < 0) := by omega
    clear hfi hm1 hm2 hml
    go_enter Tryz.func7, Tryz.ntmps7
    go_wp2_with fail
    refine HI.out.mono ?_
    rintro e w1 ⟨rfl, hg⟩
    have HST := Lib.hid (seesSt_start me hg)
    have HG1 := Lib.hid hg
    have c4 := HST.out.b4
    have e0 := c4.cell 0
    have e1 := c4.cell 1
    clear hg c4
    go_wp2_with fail
    clear e0 e1
    obtain ⟨b7, hb7⟩ : ∃ b7, w1.heap.size = b7 := ⟨_, rfl⟩
    rw [hb7] at HST ⊢
    have HMP : Hid (V64 (ps[me]!).pos) := Lib.hid (by
      have : me < ps.length := by rw [HP.out.1]; exact hmn
      rw [bang this]
      exact HVP.out _ (List.getElem_mem this))
    obtain ⟨mp, hmp⟩ : ∃ mp, (ps[me]!).pos = mp := ⟨_, rfl⟩
    have HMPE := Lib.hid hmp
    clear HG1 HI HV hb7 hmp
    go_loopg [27] np (fun kx s27 wr => ∃ (k : Nat) (v : Value), s27 = .int .i64 k ∧ k ≤ np ∧ np - k ≤ kx ∧ Hid (SeesSt w wr b7 id me (.slice Ap np cp) (.slice As ns cs) v (plsSeen farF me mp ps k)))
    case atStart => exact ⟨0, _, rfl, by omega, by omega, HST⟩
    case round =>
      obtain ⟨k, v, rfl, hk, hkx, HT⟩ := hrel
      by_cases hlt : k < np
      · obtain ⟨b, off, p, hA, hb, hx, hr⟩ := (HP.out.grown HT.out.g HB.out (by simp)).at_ Pl.cl_len hlt
        subst hA
        have hpk : ps[k]! = p := by simp [hx]
        have HPK := Lib.hid hpk
        have HVK : Hid (V64 p.pos) := Lib.hid (HVP.out p (List.mem_of_getElem? hx))
        obtain ⟨c0, c1, c2, c3, c4, c5, c6, c7, c8, c9, c10, c11, c12, c13, c14⟩ := pl_cells hr
        have HT2 := Lib.hid (HT.out.grown (World.grownBy_alloc wr (.cells p.cl.toArray 38) none))
        have d7 := HT2.out.b7_.cell 0
        have d8 := HT2.out.b8.cell 0
        have f8 := HT2.out.b8.free 0
        unfold Pl.cl at d7 d8 f8
        have HLE : Hid ((plsSeen farF me mp ps k).length ≤ k) := Lib.hid (plsSeen_le _ _ _ _ _)
        have HV8 : Hid (some (b7 + 1) ≠ v.ownBlock) := Lib.hid (fun e => by have := (HT.out.own.lt _ e.symm).1; omega)
        clear hr hb hx hpk
        have hbk : (k : Int) < (np : Int) := by omega
        by_cases hkm : k = me
        · subst hkm
          go_wp2_with (at_builtin; refine wpList_append_rg rfl (.tmp 35) (.tmp 38) 95 rfl (b7 + 1 + 1) 97 (.agg #[.int .i64 0, .int .i64 0, .int .i64 0, .int .i64 0]) 4 32 encSeen_len Tryz.underlying95 Tryz.info97 rfl (by decide) v _ _ rfl (own_kept HT2.out.own (World.grownBy_alloc _ _ none)) _ _ 1 1 [⟨-1, 0, 0, k⟩] rfl (rg_lit_at _ _ _ (by simp) rfl) (encSeens_one _) _ rfl (by have := HLE.out; simp only [maxLen]; omega) (by have := HLE.out; omega) (Nat.le_trans HT2.out.hi (World.grownBy_alloc _ _ none).size) ?_; intro A2 c2 w4 hown hgrow hat; have H1 := Lib.hid hown; have H2 := Lib.hid hgrow; have H3 := Lib.hid hat; have j8 := ((HT2.out.b8.grown (World.grownBy_alloc _ _ none) (by simp)).grown hgrow HV8.out); have e8 := j8.cell 0; have g8 := j8.free 0; have HB8 := Lib.hid j8; clear hown hgrow hat j8)
          have HPO := addPost_some (w := wr) (L := plsSeen farF k mp ps k) (x := ⟨-1, 0, 0, k⟩) (v := v) (b8 := b7 + 1) (base := b7 + 1 + 1) ((World.grownBy_alloc _ _ none).trans (World.grownBy_alloc _ _ none)) rfl (Nat.lt_succ_self _) H1.out H2.out H3.out HB8.out
          obtain ⟨v', hn⟩ := HT.out.add HPO
          have HN := Lib.hid hn
          clear hn HPO
          go_roundg (np - (k + 1))
          case measure => omega
          case rel =>
            refine ⟨k + 1, v', by go_num, by omega, by omega, ?_⟩
            rw [plsSeen_succ]
            unfold plSeen
            rw [if_pos rfl]
            exact HN
        · have hkm2 : ¬ ((k : Int) = (me : Int)) := by omega
          obtain ⟨fd, hfd⟩ : ∃ fd, farF p.pos mp = fd := ⟨_, rfl⟩
          have HFD := Lib.hid hfd
          clear hfd
          go_wp2_with fail
          refine (addSeen_calls (b7 + 1 + 1) (w.heap.size + 1) b7 (b7 + 1) B np cp ns cs _ _ As ps me p.id 0 k p.pos false _ v _ HVK.out hmn HMP.out HT2.out.b4 HT2.out.b7_ HT2.out.b8 (HP.out.grown HT2.out.g HB.out (by simp)) (Nat.le_trans HB.out HT2.out.g.size) HT2.out.own rfl (by have := HLE.out; omega) HT2.out.hi (by omega) fd (by rw [HMPE.out, if_neg (by simp)]; exact HFD.out)).mono ?_
          rintro e w2 ⟨rfl, hpost⟩
          obtain ⟨v', hn⟩ := HT2.out.add hpost
          have HN := Lib.hid hn
          clear hn hpost
          go_wp2_with fail
          go_roundg (np - (k + 1))
          case measure => omega
          case rel =>
            refine ⟨k + 1, v', by go_num, by omega, by omega, ?_⟩
            rw [plsSeen_succ, HPK.out]
            unfold plSeen
            rw [if_neg hkm, HFD.out]
            exact HN
      · obtain rfl : k = np := by omega
        have q4 := HT.out.b4.cell 1
        go_wp2_with fail
        clear q4 hkx hk hlt
        go_loopg [52] ns (fun kx s52 wr => ∃ (j : Nat) (v : Value), s52 = .int .i64 j ∧ j ≤ ns ∧ ns - j ≤ kx ∧ Hid (SeesSt w wr b7 id me (.slice Ap k cp) (.slice As ns cs) v (plsSeen farF me mp ps k ++ shsSeen farF id mp ss j)))
        case atStart => exact ⟨0, v, rfl, by omega, by omega, Lib.hid (by have := HT.out; unfold shsSeen; simpa using this)⟩
        case round =>
          obtain ⟨j, v, rfl, hj, hjx, HT⟩ := hrel
          by_cases hlt : j < ns
          · obtain ⟨b, off, p, hA, hb, hx, hr⟩ := (HSH.out.grown HT.out.g HB.out (by simp)).at_ Sh.cl_len hlt
            subst hA
            have hpk : ss[j]! = p := by simp [hx]
            have HPK := Lib.hid hpk
            have HVK : Hid (V64 p.pos) := Lib.hid (HVS.out p (List.mem_of_getElem? hx))
            obtain ⟨c0, c1, c2, c3, c4, c5, c6, c7, c8, c9, c10⟩ := sh_cells hr
            have HT2 := Lib.hid (HT.out.grown (World.grownBy_alloc wr (.cells p.cl.toArray 40) none))
            have d7 := HT2.out.bi.cell 0
            unfold Sh.cl at d7
            have HLE : Hid ((plsSeen farF me mp ps k ++ shsSeen farF id mp ss j).length ≤ k + j) := Lib.hid (by
              have h1 := plsSeen_le farF me mp ps k
              have h2 := shsSeen_le farF id mp ss j
              rw [List.length_append]; omega)
            clear hr hb hx hpk
            have hbk : (j : Int) < (ns : Int) := by omega
            obtain ⟨own, ho⟩ : ∃ own, decide (p.owner = id) = own := ⟨_, rfl⟩
            have ho2 : (p.owner == id) = own := by rw [← ho]; rfl
            obtain ⟨fd, hfd⟩ : ∃ fd, shFar farF id mp p = fd := ⟨_, rfl⟩
            have HFD := Lib.hid hfd
            have HFD2 : Hid ((if own = true then 0 else farF p.pos mp) = fd) := Lib.hid (by rw [← hfd, ← ho]; unfold shFar; simp)
            clear hfd
            go_wp2_with fail
            refine (addSeen_calls (b7 + 1 + 1) (w.heap.size + 1) b7 (b7 + 1) B k cp ns cs _ Ap _ ps me p.id 1 j p.pos own _ v _ HVK.out hmn (HMPE.out ▸ HMP.out) HT2.out.b4 HT2.out.b7_ HT2.out.b8 (HP.out.grown HT2.out.g HB.out (by simp)) (Nat.le_trans HB.out HT2.out.g.size) HT2.out.own rfl (by have := HLE.out; omega) HT2.out.hi (by omega) fd (by rw [HMPE.out]; exact HFD2.out)).mono ?_
            rintro e w2 ⟨rfl, hpost⟩
            obtain ⟨v', hn⟩ := HT2.out.add hpost
            have HN := Lib.hid hn
            clear hn hpost ho ho2
            go_wp2_with fail
            go_roundg (ns - (j + 1))
            case measure => omega
            case rel =>
              refine ⟨j + 1, v', by go_num, by omega, by omega, ?_⟩
              rw [shsSeen_succ, HPK.out, ← List.append_assoc]
              unfold shSeen
              rw [HFD.out]
              exact HN
          · obtain rfl : j = ns := by omega
            clear hjx hj hlt
            have hmem : (⟨-1, 0, 0, me⟩ : Seen) ∈ plsSeen farF me mp ps k ++ shsSeen farF id mp ss j := List.mem_append_left _ (List.mem_flatMap.2 ⟨me, List.mem_range.2 hmn, by simp [plSeen]⟩)
            have hpos := List.length_pos_of_mem hmem
            have h38 : (plsSeen farF me mp ps k ++ shsSeen farF id mp ss j).length ≤ 38 := by
              have h1 := plsSeen_le farF me mp ps k
              have h2 := shsSeen_le farF id mp ss j
              rw [List.length_append]; omega
            obtain ⟨L, hL⟩ : ∃ L, plsSeen farF me mp ps k ++ shsSeen farF id mp ss j = L := ⟨_, rfl⟩
            have HLD := Lib.hid hL
            rw [hL] at HT hpos h38
            obtain ⟨g, c, hv, hgb, hgl⟩ := HT.out.own.form hpos
            have hcap := own_cap (hv ▸ HT.out.own)
            subst hv
            obtain ⟨n, hn⟩ : ∃ n, L.length = n := ⟨_, rfl⟩
            have HLN := Lib.hid hn
            have HOWN := Lib.hid HT.out.own
            rw [hn] at hpos h38 hcap HT HOWN
            clear hmem hL hn
            have d8 := HT.out.b8.cell 0
            go_wp2_with fail
            refine (stable38_calls (b7 + 1 + 1) n c g L wr HOWN.out HLN.out h38).mono ?_
            rintro e w3 ⟨rfl, l1, hp1, hr1, hg3, hf1⟩
            have HP1 := Lib.hid hp1
            have HF1 := Lib.hid hf1
            have HR1 := Lib.hid hr1
            have HG3 := Lib.hid hg3
            have k8 := HT.out.b8.grown hg3 (by intro e; injection e with e; omega)
            have K8 := Lib.hid k8
            have e8 := k8.cell 0
            have f8 := k8.free 0
            obtain ⟨kk, hkk⟩ : ∃ kk : Nat, min (n : Int) (max budget 1) = (kk : Int) := ⟨(min (n : Int) (max budget 1)).toNat, by omega⟩
            have hk1 : (kk : Int) ≤ (c : Int) := by omega
            have hk2 : (0 : Int) ≤ (kk : Int) := by omega
            have HKK := Lib.hid hkk
            have hkn : kk ≤ n := by omega
            have HKN := Lib.hid hkn
            clear hp1 hr1 hg3 hf1 k8 d8 hkn
            have hl1 : (l1.take kk).length = kk := by rw [List.length_take, HP1.out.length_eq, HLN.out]; omega
            have HS43 : Hid (∀ W, RowIs W g (l1.take kk) → g < W.heap.size → Calls Tryz.prog 43 #[.slice (some ⟨g, 0, none⟩) kk c, .func (.func 44) #[] #[]] W fun e w' => e = .returned (.tuple #[]) ∧ ∃ l2 : List Seen, l2.Perm (l1.take kk) ∧ l2.Pairwise (fun a b => ¬ b.place < a.place) ∧ RowIs w' g l2 ∧ W.grownBy w' (some g)) := Lib.hid fun W h1 h2 => by
              have := sort43_calls c g (l1.take kk) W h1 h2 (by rw [hl1]; omega)
              rw [hl1] at this
              exact this
            have HL1 := Lib.hid hl1
            clear hl1
            have hgs := World.grownBy_setCell' w3 (b7 + 1) 0 (.slice (some ⟨g, 0, none⟩) kk c)
            have hg3l : g < w3.heap.size := Nat.lt_of_lt_of_le hgl HG3.out.size
            have HR2 : Hid (RowIs (w3.setCell ⟨b7 + 1, 0, none⟩ (.slice (some ⟨g, 0, none⟩) kk c)) g (l1.take kk)) := Lib.hid ((HR1.out.take_ kk).keep hgs hg3l (by intro e; injection e with e; omega))
            have HGL : Hid (g < (w3.setCell ⟨b7 + 1, 0, none⟩ (.slice (some ⟨g, 0, none⟩) kk c)).heap.size) := Lib.hid (Nat.lt_of_lt_of_le hg3l hgs.size)
            have hTlo := HT.out.lo
            have hTg := HT.out.g.size
            have HG4 : Hid (w.grownBy (w3.setCell ⟨b7 + 1, 0, none⟩ (.slice (some ⟨g, 0, none⟩) kk c)) none) := Lib.hid (set_lo (grown_over HT.out.g HG3.out (by omega)) (by omega) 0 _)
            have HB4 : Hid (Blk (w3.setCell ⟨b7 + 1, 0, none⟩ (.slice (some ⟨g, 0, none⟩) kk c)) (w.heap.size + 1) 26 #[.slice Ap k cp, .slice As j cs]) := Lib.hid (Blk.other (HT.out.b4.grown HG3.out (by intro e; injection e with e; omega)) 0 _ (by omega))
            have HB6 : Hid (Blk (w3.setCell ⟨b7 + 1, 0, none⟩ (.slice (some ⟨g, 0, none⟩) kk c)) (w.heap.size + 1 + 1) 26 #[.slice none 0 0, .slice none 0 0]) := Lib.hid (Blk.other (HT.out.b6.grown HG3.out (by intro e; injection e with e; omega)) 0 _ (by omega))
            have HB8 : Hid (Blk (w3.setCell ⟨b7 + 1, 0, none⟩ (.slice (some ⟨g, 0, none⟩) kk c)) (b7 + 1) 95 #[.slice (some ⟨g, 0, none⟩) kk c]) := Lib.hid ((K8.out.put 0 _).of_ rfl)
            clear hgs hg3l
            go_wp2_with fail
            refine (HS43.out _ HR2.out HGL.out).mono ?_
            rintro e w5 ⟨rfl, l2, hp2, hs2, hr2, hg5⟩
            have hb8 := HB8.out.grown hg5 (by intro e; injection e with e; omega)
            have e8 := hb8.cell 0
            have HST : Hid (OutSt w w5 w5.heap.size g (.slice Ap k cp) (.slice As j cs) (.slice none 0 0) (.slice none 0 0) l2 (outPl ps (l2.take 0)) (outSh ss (l2.take 0))) := Lib.hid ⟨grown_over HG4.out hg5 (by omega), HB4.out.grown hg5 (by intro e; injection e with e; omega), HB6.out.grown hg5 (by intro e; injection e with e; omega), hr2, World.ownsRow_nil _ _ 38 15, World.ownsRow_nil _ _ 40 11, .inl rfl, .inl rfl, by omega, Nat.lt_of_lt_of_le HGL.out hg5.size, Nat.le_refl _⟩
            have HCUT : Hid (Cut L (max budget 1).toNat l2) := Lib.hid ⟨⟨l1, HP1.out, by
              have e : l1.take (max budget 1).toNat = l1.take kk := by
                have hl := HP1.out.length_eq
                rw [HLN.out] at hl
                rcases Nat.lt_or_ge (max budget 1).toNat n with h | h
                · rw [show kk = (max budget 1).toNat by have := HKK.out; omega]
                · rw [List.take_of_length_le (by omega), List.take_of_length_le (by have := HKK.out; omega)]
              rw [e]; exact hp2, HF1.out⟩, hs2.imp (fun h => by omega)⟩
            have HMEM : Hid (∀ x ∈ l2, x ∈ L) := Lib.hid fun x hx => HP1.out.mem_iff.1 ((List.take_sublist kk l1).subset (hp2.mem_iff.1 hx))
            have HLEN : Hid (l2.length = kk) := Lib.hid (by rw [hp2.length_eq, HL1.out])
            have hbase : Hid (w5.heap.size = w5.heap.size) := Lib.hid rfl
            obtain ⟨base, hbs⟩ : ∃ base, w5.heap.size = base := ⟨_, rfl⟩
            rw [hbs] at HST
            clear hp2 hs2 hr2 hg5 hb8 hbs hbase HS43 HR2 HGL HG4 HB4 HB6 HB8 K8 HG3 HR1 HT HOWN hTlo hTg
            go_wp2_with fail
            go_loopg [83] kk (fun kx s83 wr => ∃ (i : Nat) (s1 s2 : Value), s83 = .int .i64 i ∧ i ≤ kk ∧ kk - i ≤ kx ∧ Hid (OutSt w wr base g (.slice Ap k cp) (.slice As j cs) s1 s2 l2 (outPl ps (l2.take i)) (outSh ss (l2.take i))))
            case atStart => exact ⟨0, _, _, rfl, by omega, by omega, HST⟩
            case round =>
              obtain ⟨i, s1, s2, rfl, hi, hix, HT⟩ := hrel
              by_cases hlt : i < kk
              · obtain ⟨b0, off0, x, hA0, hb0, hx, hr0⟩ := HT.out.row.rg.at_ encSeen_len (show i < l2.length by rw [HLEN.out]; exact hlt)
                injection hA0 with hA0
                injection hA0 with hA1 hA2
                subst hA1 hA2
                have hsq := all_place (HLD.out ▸ HMEM.out x (List.mem_of_getElem? hx) : x ∈ plsSeen farF me mp ps k ++ shsSeen farF id mp ss j)
                have c0 : wr.cell? ⟨g, i * 4, none⟩ = some (.int .i64 x.far) := by have := hr0 0 _ rfl; simpa using this
                have c1 : wr.cell? ⟨g, i * 4 + 1, none⟩ = some (.int .i64 x.id) := by have := hr0 1 _ rfl; simpa using this
                have c2 : wr.cell? ⟨g, i * 4 + 2, none⟩ = some (.int .i64 x.sort) := by have := hr0 2 _ rfl; simpa using this
                have c3 : wr.cell? ⟨g, i * 4 + 3, none⟩ = some (.int .i64 x.place) := by have := hr0 3 _ rfl; simpa using this
                have hik : (i : Int) < (kk : Int) := by omega
                clear hr0 hb0
                obtain ⟨xf, xi, xs, xp⟩ := x
                simp only at hsq c0 c1 c2 c3
                have HX := Lib.hid hx
                rcases hsq with ⟨rfl, q, rfl, hq⟩ | ⟨rfl, q, rfl, hq⟩
                · obtain ⟨b, off, p, hA, hb, hpx, hr⟩ := (HP.out.grown HT.out.gr HB.out (by simp)).at_ Pl.cl_len hq
                  subst hA
                  have hpp : ps[((q : Nat) : Int).toNat]! = p := by simp [hpx]
                  have HE1 : Hid (outPl ps (l2.take (i + 1)) = outPl ps (l2.take i) ++ [p]) := Lib.hid (by rw [outPl_take ps l2 i _ HX.out]; show _ ++ (if (0 : Int) = 0 then [ps[((q : Nat) : Int).toNat]!] else []) = _; rw [if_pos rfl, hpp])
                  have HE2 : Hid (outSh ss (l2.take (i + 1)) = outSh ss (l2.take i)) := Lib.hid (by rw [outSh_take ss l2 i _ HX.out]; simp)
                  have HC0 := Lib.hid (HT.out.grown (World.grownBy_alloc wr (.cells (encSeen ⟨xf, xi, 0, q⟩).toArray 97) none))
                  have hc1 : (wr.alloc (.cells (encSeen ⟨xf, xi, 0, q⟩).toArray 97)).cell? ⟨wr.heap.size, 3, none⟩ = some (.int .i64 q) := new_cell wr _ 97 3 _ rfl
                  have HRNG : Hid ((wr.alloc (.cells (encSeen ⟨xf, xi, 0, q⟩).toArray 97)).rangeAt b (off + q * 15) p.cl) := Lib.hid (fun u v hu => grown_at (World.grownBy_alloc wr (.cells (encSeen ⟨xf, xi, 0, q⟩).toArray 97) none) _ _ _ (hr u v hu) (World.block_lt_of_cell? wr _ (hr u v hu)) (by simp))
                  have HC1 := Lib.hid hc1
                  have HV1 : Hid (∀ z, z < base → some z ≠ s1.ownBlock) := Lib.hid fun z hz e => by have := (HT.out.o1.lt _ e.symm).1; omega
                  have hlo := HT.out.lo
                  have hgb := HT.out.glo
                  have hhi := HT.out.hi
                  have hk0 := out_keep (World.grownBy.refl _ none) (HC0.out.b6.cell 0) (HC0.out.b4.cell 0) HC1.out HRNG.out (by simp) (by simp) (by simp) (by simp)
                  have hqn : (q : Int) < (k : Int) := by omega
                  clear hr hb hpx hc1 hpp
                  have hkb := (HC0.out.b6.alloc (.cells p.cl.toArray 38)).cell 0
                  unfold encSeen at hk0 hkb
                  unfold Pl.cl at hkb
                  obtain ⟨k0, k1, k2, k3, k4, k5, k6, k7, k8, k9, k10, k11, k12, k13, k14, k15, k16, k17⟩ := hk0
                  go_wp2_with fail
                  refine region_leaves (fun A c => [(90, .pointer (some ⟨w.heap.size + 1 + 1, 0, none⟩)), (91, s1), (92, .pointer (some ⟨w.heap.size + 1, 0, none⟩)), (93, .slice (some ⟨b, off, none⟩) k cp), (94, .pointer (some ⟨wr.heap.size, 3, none⟩)), (95, .int .i64 q), (96, .pointer (some ⟨b, off + q * 15, none⟩)), (97, p.val), (98, .slice (some ⟨wr.heap.size + 1, 0, none⟩) 1 1), (99, .slice A ((outPl ps (l2.take i)).length + 1) c), (100, .pointer (some ⟨w.heap.size + 1 + 1, 0, none⟩))])
                    (fun A c W => OutSt w W base g (.slice (some ⟨b, off, none⟩) k cp) (.slice As j cs) (.slice A ((outPl ps (l2.take i)).length + 1) c) s2 l2 (outPl ps (l2.take i) ++ [p]) (outSh ss (l2.take i))) ?_ ?_
                  · go_region_law (refine step_append_rg rfl (.tmp 91) (.tmp 98) 22 rfl base 38 (Pl.val default) 15 120 Pl.cl_len Tryz.underlying22 Tryz.info38 rfl (by decide) s1 _ (outPl ps (l2.take i)) rfl (own_kept HT.out.o1 (by first | exact grown_aad _ _ _ | exact grown_ada _ _ _)) _ _ 1 1 [p] rfl (by first | exact rg_lit_da _ _ _ (by simp) rfl | exact rg_lit_ad _ _ _ (by simp) rfl) (Pl.one _) _ rfl (by have := outPl_le ps l2 i; simp only [maxLen]; omega) (by have := outPl_le ps l2 i; omega) (Nat.le_trans HT.out.hi (World.grownBy.size (w := wr) (row := none) (by first | exact grown_aad _ _ _ | exact grown_ada _ _ _))) ?_; intro A2 c2 w4 hown hgrow hat; have HNEW := Lib.hid (OutSt.addPl (HT.out.grown (by first | exact grown_aad _ _ _ | exact grown_ada _ _ _)) (p := p) rfl hown hgrow hat); have hw4 : wr.grownBy w4 s1.ownBlock := only_trans (none_some (by first | exact grown_aad _ _ _ | exact grown_ada _ _ _)) hgrow; have j6 := HT.out.b6.grown hw4 (HV1.out _ (by omega)); have e6 := j6.cell 0; have f6 := j6.free 0; clear hown hgrow hat j6 hw4)
                    all_goals
                      refine LeavesE.mk A2 c2 ?_ HNEW.out
                      simp only [puts, Act.put, List.setIfInBounds_toArray, List.set_cons_zero, List.set_cons_succ]
                  intro A2 c2 w4 HNEW
                  have HNEW := Lib.hid HNEW
                  simp only [puts, Act.put, List.setIfInBounds_toArray, List.set_cons_zero, List.set_cons_succ]
                  clear k0 k1 k2 k3 k4 k5 k6 k7 k8 k9 k10 k11 k12 k13 k14 k15 k16 k17 hkb
                  go_wp2_with fail
                  go_roundg (kk - (i + 1))
                  case measure => omega
                  case rel =>
                    refine ⟨i + 1, .slice A2 ((outPl ps (l2.take i)).length + 1) c2, s2, by go_num, by omega, by omega, ?_⟩
                    rw [HE1.out, HE2.out]
                    exact HNEW
                · obtain ⟨b, off, p, hA, hb, hpx, hr⟩ := (HSH.out.grown HT.out.gr HB.out (by simp)).at_ Sh.cl_len hq
                  subst hA
                  have hpp : ss[((q : Nat) : Int).toNat]! = p := by simp [hpx]
                  have HE1 : Hid (outPl ps (l2.take (i + 1)) = outPl ps (l2.take i)) := Lib.hid (by rw [outPl_take ps l2 i _ HX.out]; simp)
                  have HE2 : Hid (outSh ss (l2.take (i + 1)) = outSh ss (l2.take i) ++ [p]) := Lib.hid (by rw [outSh_take ss l2 i _ HX.out]; show _ ++ (if (1 : Int) = 0 then [] else [ss[((q : Nat) : Int).toNat]!]) = _; rw [if_neg (by decide), hpp])
                  have HC0 := Lib.hid (HT.out.grown (World.grownBy_alloc wr (.cells (encSeen ⟨xf, xi, 1, q⟩).toArray 97) none))
                  have hc1 : (wr.alloc (.cells (encSeen ⟨xf, xi, 1, q⟩).toArray 97)).cell? ⟨wr.heap.size, 3, none⟩ = some (.int .i64 q) := new_cell wr _ 97 3 _ rfl
                  have HRNG : Hid ((wr.alloc (.cells (encSeen ⟨xf, xi, 1, q⟩).toArray 97)).rangeAt b (off + q * 11) p.cl) := Lib.hid (fun u v hu => grown_at (World.grownBy_alloc wr (.cells (encSeen ⟨xf, xi, 1, q⟩).toArray 97) none) _ _ _ (hr u v hu) (World.block_lt_of_cell? wr _ (hr u v hu)) (by simp))
                  have HC1 := Lib.hid hc1
                  have HV1 : Hid (∀ z, z < base → some z ≠ s2.ownBlock) := Lib.hid fun z hz e => by have := (HT.out.o2.lt _ e.symm).1; omega
                  have hlo := HT.out.lo
                  have hgb := HT.out.glo
                  have hhi := HT.out.hi
                  have hk0 := out_keepS (World.grownBy.refl _ none) (HC0.out.b6.cell 1) (HC0.out.b4.cell 1) HC1.out HRNG.out (by simp) (by simp) (by simp) (by simp)
                  have hqn : (q : Int) < (j : Int) := by omega
                  clear hr hb hpx hc1 hpp
                  have hkb := (HC0.out.b6.alloc (.cells p.cl.toArray 40)).cell 1
                  unfold encSeen at hk0 hkb
                  unfold Sh.cl at hkb
                  obtain ⟨k0, k1, k2, k3, k4, k5, k6, k7, k8, k9, k10, k11, k12, k13⟩ := hk0
                  go_wp2_with fail
                  refine region_leaves (fun A c => [(101, .pointer (some ⟨w.heap.size + 1 + 1, 1, none⟩)), (102, s2), (103, .pointer (some ⟨w.heap.size + 1, 1, none⟩)), (104, .slice (some ⟨b, off, none⟩) j cs), (105, .pointer (some ⟨wr.heap.size, 3, none⟩)), (106, .int .i64 q), (107, .pointer (some ⟨b, off + q * 11, none⟩)), (108, p.val), (109, .slice (some ⟨wr.heap.size + 1, 0, none⟩) 1 1), (110, .slice A ((outSh ss (l2.take i)).length + 1) c), (111, .pointer (some ⟨w.heap.size + 1 + 1, 1, none⟩))])
                    (fun A c W => OutSt w W base g (.slice Ap k cp) (.slice (some ⟨b, off, none⟩) j cs) s1 (.slice A ((outSh ss (l2.take i)).length + 1) c) l2 (outPl ps (l2.take i)) (outSh ss (l2.take i) ++ [p])) ?_ ?_
                  · go_region_law (refine step_append_rg rfl (.tmp 102) (.tmp 109) 23 rfl base 40 (Sh.val default) 11 88 Sh.cl_len Tryz.underlying23 Tryz.info40 rfl (by decide) s2 _ (outSh ss (l2.take i)) rfl (own_kept HT.out.o2 (by first | exact grown_aad _ _ _ | exact grown_ada _ _ _)) _ _ 1 1 [p] rfl (by first | exact rg_lit_da _ _ _ (by simp) rfl | exact rg_lit_ad _ _ _ (by simp) rfl) (Sh.one _) _ rfl (by have := outSh_le ss l2 i; simp only [maxLen]; omega) (by have := outSh_le ss l2 i; omega) (Nat.le_trans HT.out.hi (World.grownBy.size (w := wr) (row := none) (by first | exact grown_aad _ _ _ | exact grown_ada _ _ _))) ?_; intro A2 c2 w4 hown hgrow hat; have HNEW := Lib.hid (OutSt.addSh (HT.out.grown (by first | exact grown_aad _ _ _ | exact grown_ada _ _ _)) (p := p) rfl hown hgrow hat); have hw4 : wr.grownBy w4 s2.ownBlock := only_trans (none_some (by first | exact grown_aad _ _ _ | exact grown_ada _ _ _)) hgrow; have j6 := HT.out.b6.grown hw4 (HV1.out _ (by omega)); have e6 := j6.cell 1; have f6 := j6.free 1; clear hown hgrow hat j6 hw4)
                    all_goals
                      refine LeavesE.mk A2 c2 ?_ HNEW.out
                      simp only [puts, Act.put, List.setIfInBounds_toArray, List.set_cons_zero, List.set_cons_succ]
                  intro A2 c2 w4 HNEW
                  have HNEW := Lib.hid HNEW
                  simp only [puts, Act.put, List.setIfInBounds_toArray, List.set_cons_zero, List.set_cons_succ]
                  clear k0 k1 k2 k3 k4 k5 k6 k7 k8 k9 k10 k11 k12 k13 hkb
                  go_wp2_with fail
                  go_roundg (kk - (i + 1))
                  case measure => omega
                  case rel =>
                    refine ⟨i + 1, s1, .slice A2 ((outSh ss (l2.take i)).length + 1) c2, by go_num, by omega, by omega, ?_⟩
                    rw [HE1.out, HE2.out]
                    exact HNEW
              · obtain rfl : i = kk := by omega
                obtain ⟨A1, c1, hs1⟩ := own_slice HT.out.o1
                obtain ⟨A2, c2, hs2⟩ := own_slice HT.out.o2
                subst hs1 hs2
                have hb6 := HT.out.b6
                have d0 := hb6.cell 0
                have d1 := hb6.cell 1
                have f0 := hb6.free 0
                have f1 := hb6.free 1
                clear hb6 hk1 hk2 hkk
                go_wp2_with fail
                have hb6 := (HT.out.b6.put 0 (.slice A1 (outPl ps (l2.take i)).length c1)).put 1 (.slice A2 (outSh ss (l2.take i)).length c2)
                refine bodyPost_ret (results_cell_row (cs := #[.slice A1 (outPl ps (l2.take i)).length c1, .slice A2 (outSh ss (l2.take i)).length c2]) rfl _ _ (w.heap.size + 1 + 1) 26 (0, 0) _ rfl hb6 Tryz.underlying26 rfl Tryz.size26) rfl ?_
                have htk : l2.take i = l2 := List.take_of_length_le (by rw [HLEN.out]; omega)
                have h1 := own_rg Pl.cl_len (by decide) HT.out.o1
                have h2 := own_rg Sh.cl_len (by decide) HT.out.o2
                have hlo := HT.out.lo
                have hgb := HT.out.glo
                have q1 := World.grownBy_setCell' wr (w.heap.size + 1 + 1) 0 (.slice A1 (outPl ps (l2.take i)).length c1)
                have q2 := World.grownBy_setCell' (wr.setCell ⟨w.heap.size + 1 + 1, 0, none⟩ (.slice A1 (outPl ps (l2.take i)).length c1)) (w.heap.size + 1 + 1) 1 (.slice A2 (outSh ss (l2.take i)).length c2)
                have o1 := own_rg Pl.cl_len (by decide) (own_other (own_other HT.out.o1 (a := ⟨w.heap.size + 1 + 1, 0, none⟩) (fun e => by have := (HT.out.o1.lt _ e).1; simp only at this; omega) (.slice A1 (outPl ps (l2.take i)).length c1)) (a := ⟨w.heap.size + 1 + 1, 1, none⟩) (fun e => by have := (HT.out.o1.lt _ e).1; simp only at this; omega) (.slice A2 (outSh ss (l2.take i)).length c2))
                have o2 := own_rg Sh.cl_len (by decide) (own_other (own_other HT.out.o2 (a := ⟨w.heap.size + 1 + 1, 0, none⟩) (fun e => by have := (HT.out.o2.lt _ e).1; simp only at this; omega) (.slice A1 (outPl ps (l2.take i)).length c1)) (a := ⟨w.heap.size + 1 + 1, 1, none⟩) (fun e => by have := (HT.out.o2.lt _ e).1; simp only at this; omega) (.slice A2 (outSh ss (l2.take i)).length c2))
                refine ⟨A1, _, c1, A2, _, c2, _, _, rfl, set_lo (set_lo HT.out.gr (by omega) 0 _) (by omega) 1 _, o1, o2, ?_⟩
                unfold SeesPost
                rw [HFI.out, htk]
                simp only [HMPE.out]
                refine ⟨l2, ?_, rfl, rfl⟩
                have e1 := HP.out.1
                have e2 := HSH.out.1
                unfold allSeen
                rw [e1, e2, HLD.out]
                exact HCUT.out
end Go.Proofs.YtbilegkffooioaaGreatDoor
