/-
  The whole game in any case: works() is true, and turns nothing that was there.
-/
import Derived.Test.YtbilegkffooioaaGreatDoorM24
import Derived.Test.YtbilegkffooioaaGreatDoorM01
import Derived.Test.YtbilegkffooioaaGreatDoorM07
import Derived.Test.YtbilegkffooioaaGreatDoorM08
import Derived.ProofKit
import Derived.OpenShut
import Derived.ShutString
import Derived.ChangeOld
import Derived.Below
import Derived.LaidMore
import Derived.Lib.LaidTab
import Derived.Stop.Joined
import Derived.SevenTiedAt
import Derived.Test.YtbilegkffooioaaGreatDoorRows
import Derived.Deep.Fields
import Derived.Deep.Slices
import Derived.JoinedOf
namespace Go.Ev
open Go.Proofs
set_option maxRecDepth 100000

/-- The three variables of the packages. -/
structure Laid (w : World) : Prop where
  players : w.heap[0]? = some (.cells #[.int .i64 14, .int .i64 6, .int .i64 8] 83 (0, 0))
  shots : w.heap[1]? = some (.cells #[.int .i64 10, .int .i64 9, .int .i64 64] 83 (0, 0))
  halves : w.heap[2]? = some (.cells #[.int .u16 0, .int .u16 4129, .int .u16 8258, .int .u16 12387, .int .u16 16516, .int .u16 20645, .int .u16 24774, .int .u16 28903, .int .u16 33032, .int .u16 37161, .int .u16 41290, .int .u16 45419, .int .u16 49548, .int .u16 53677, .int .u16 57806, .int .u16 61935] 421 (0, 0))

def ρg : Ren := fun b => if b < 3 then some ⟨b, 0, 0⟩ else none

theorem laid_row {w : World} {b : Nat} {l : List Value} {t : TypeId} (h : w.heap[b]? = some (.cells l.toArray t (0, 0))) (hl : closedA l = true) : BR Tryz.prog ρg (C t true l) ⟨b, 0, 0⟩ w := by
  refine ⟨l.toArray, h, by simp, fun i hi => ?_, rfl, fun hs => by cases hs⟩
  rw [X.ofList_setN, Tr.get_ofList, if_pos (by omega)]
  obtain ⟨v', h1, h2⟩ := (vrl_closed ρg hl).get (i := i) (v := l[i]) (by simp [hi])
  exact ⟨l[i], v', by simp [hi], by simpa using h1, h2⟩

theorem get37 (b : Nat) : q37.m.blks.get b = if b = 2 then some (C 421 true [(.int .u16 (.ofNat 0)), (.int .u16 (.ofNat 4129)), (.int .u16 (.ofNat 8258)), (.int .u16 (.ofNat 12387)), (.int .u16 (.ofNat 16516)), (.int .u16 (.ofNat 20645)), (.int .u16 (.ofNat 24774)), (.int .u16 (.ofNat 28903)), (.int .u16 (.ofNat 33032)), (.int .u16 (.ofNat 37161)), (.int .u16 (.ofNat 41290)), (.int .u16 (.ofNat 45419)), (.int .u16 (.ofNat 49548)), (.int .u16 (.ofNat 53677)), (.int .u16 (.ofNat 57806)), (.int .u16 (.ofNat 61935))])
    else if b = 1 then some (C 83 true [(I 10), (I 9), (I 64)]) else if b = 0 then some (C 83 true [(I 14), (I 6), (I 8)]) else none := by
  show (setAll q37.mem .e).get b = _
  unfold q37
  simp only [setAll_cons]
  show Tr.get (Tr.set _ _ _) b = _
  rw [Tr.get_set, Tr.get_set, Tr.get_set]
  rfl

theorem rel37 {w : World} (h : Laid w) : Rel Tryz.prog 3 ρg q37.m w := by
  have hn : q37.m.next = 3 := rfl
  have hl : ∀ b k, q37.m.blks.get b = some k → b < 3 := fun b k hk => by
    rw [get37] at hk
    by_cases h2 : b = 2
    · omega
    · by_cases h1 : b = 1
      · omega
      · by_cases h0 : b = 0
        · omega
        · rw [if_neg h2, if_neg h1, if_neg h0] at hk; cases hk
  refine ⟨fun b hb => by rw [hn] at hb; unfold ρg; rw [if_neg (by omega)], fun b k hk _ => by rw [hn]; exact hl b k hk, fun b k hk _ => ?_, fun b b' s s' _ _ h1 h2 he => ?_, fun b hb => by unfold ρg; rw [if_pos hb], by rw [hn]; exact Nat.le_refl _⟩
  · refine ⟨⟨b, 0, 0⟩, by unfold ρg; rw [if_pos (hl b k hk)], ?_⟩
    rw [get37] at hk
    by_cases h2 : b = 2
    · rw [if_pos h2] at hk
      cases hk
      subst h2
      exact laid_row h.halves rfl
    · rw [if_neg h2] at hk
      by_cases h1 : b = 1
      · rw [if_pos h1] at hk
        cases hk
        subst h1
        exact laid_row h.shots rfl
      · rw [if_neg h1] at hk
        by_cases h0 : b = 0
        · rw [if_pos h0] at hk
          cases hk
          subst h0
          exact laid_row h.players rfl
        · rw [if_neg h0] at hk; cases hk
  · unfold ρg at h1 h2
    split at h1
    · split at h2
      · cases h1; cases h2; exact he
      · cases h2
    · cases h1

/-- **works() is true.** -/
theorem works_calls {w : World} (h : Laid w) : Calls Tryz.prog 5 #[] w fun e w' => e = .returned (.bool true) ∧ w.grownBy w' none := by
  obtain ⟨_, _, M', hc, _⟩ := q37_right
  refine (hc ρg w #[] (rel37 h) .nil).mono ?_
  rintro e w' ⟨v', ρ', rfl, hw, hv⟩
  have hv' : v' = .bool true := by
    have hv : VR ρ' (.bool true) v' := hv
    cases hv; rfl
  subst hv'
  refine ⟨rfl, hw.kept.os, hw.kept.tape, hw.kept.out, hw.kept.size, fun k hk _ => hw.kept.heap k hk fun b s hb hl _ => ?_⟩
  obtain ⟨k', hk', _⟩ := hl
  have : b < 3 := by
    rw [get37] at hk'
    by_cases h2 : b = 2
    · omega
    · by_cases h1 : b = 1
      · omega
      · by_cases h0 : b = 0
        · omega
        · rw [if_neg h2, if_neg h1, if_neg h0] at hk'; cases hk'
  omega

end Go.Ev
/-
  Two players, two shots that are the same are equal, as the model compares them.
-/
namespace Go.Proofs.YtbilegkffooioaaGreatDoor
open Go.RowKit

set_option maxHeartbeats 1000000 in
theorem equal35 (d : Nat) (w : World) (x y z : Int) : (Op.equalIn (d + 1 + 1) 35 (.agg #[.int .i64 x, .int .i64 y, .int .i64 z]) (.agg #[.int .i64 x, .int .i64 y, .int .i64 z])).run Tryz.prog w = .ok true w := by
  rw [run_equalIn_struct _ _ _ _ _ (by kernel_rfl) (by kernel_rfl)]
  simp [go_sem]
set_option maxHeartbeats 1000000 in
theorem equal36 (d : Nat) (w : World) (x y : Int) : (Op.equalIn (d + 1 + 1) 36 (.agg #[.int .i64 x, .int .i64 y]) (.agg #[.int .i64 x, .int .i64 y])).run Tryz.prog w = .ok true w := by
  have hi : (isAgg 3).run Tryz.prog w = .ok false w := by kernel_rfl
  have hs : (sizeOf 3).run Tryz.prog w = .ok 1 w := by kernel_rfl
  have hx : ∀ v : Int, (Op.equalIn (d + 1) 3 (.int .i64 v) (.int .i64 v)).run Tryz.prog w = .ok true w := fun v => by simp [go_sem]
  rw [Op.equalIn]
  simp [run_underlying Tryz.underlying36, hs, hi, hx, part, List.range', Result.andThen]
section
variable (w : World)
theorem eq3 (a : Int) : (Op.equalIn 9999 3 (.int .i64 a) (.int .i64 a)).run Tryz.prog w = .ok true w := by simp [go_sem]
theorem eq4 (a : Bool) : (Op.equalIn 9999 4 (.bool a) (.bool a)).run Tryz.prog w = .ok true w := by simp [go_sem]
theorem eq35 (a b c : Int) : (Op.equalIn 9999 35 (.agg #[.int .i64 a, .int .i64 b, .int .i64 c]) (.agg #[.int .i64 a, .int .i64 b, .int .i64 c])).run Tryz.prog w = .ok true w := equal35 9997 w a b c
theorem eq36 (a b : Int) : (Op.equalIn 9999 36 (.agg #[.int .i64 a, .int .i64 b]) (.agg #[.int .i64 a, .int .i64 b])).run Tryz.prog w = .ok true w := equal36 9997 w a b
end
set_option maxRecDepth 100000 in
set_option maxHeartbeats 4000000 in
theorem equal38 (w : World) (p : Pl) : (Op.equalIn 10000 38 p.val p.val).run Tryz.prog w = .ok true w := by
  obtain ⟨f0, f1, f2, f3, f4, f5, f6, f7, f8, f9, f10, f11, f12, f13, f14⟩ := p
  rw [run_equalIn_struct _ 9999 38 _ _ (by kernel_rfl) (by kernel_rfl)]
  simp [Program.fieldsOf, Tryz.underlying38, Op.eqFields, part, eq3, eq4, eq35, eq36, Result.andThen]
set_option maxRecDepth 100000 in
set_option maxHeartbeats 4000000 in
theorem equal40 (w : World) (p : Sh) : (Op.equalIn 10000 40 p.val p.val).run Tryz.prog w = .ok true w := by
  obtain ⟨f0, f1, f2, f3, f4, f5, f6, f7, f8, f9, f10⟩ := p
  rw [run_equalIn_struct _ 9999 40 _ _ (by kernel_rfl) (by kernel_rfl)]
  simp [Program.fieldsOf, Tryz.underlying40, Op.eqFields, part, eq3, eq4, eq35, Result.andThen]
theorem neq38 (w : World) (p : Pl) : (binOp .neq 38 p.val p.val).run Tryz.prog w = .ok (.bool false) w := by
  rw [run_neq_struct, equal38]; rfl
theorem neq40 (w : World) (p : Sh) : (binOp .neq 40 p.val p.val).run Tryz.prog w = .ok (.bool false) w := by
  rw [run_neq_struct, equal40]; rfl
end Go.Proofs.YtbilegkffooioaaGreatDoor
/-
  **TopHidden**, the law: what a player does not see changes no byte that it is told.
-/
namespace Go.Proofs.YtbilegkffooioaaGreatDoor
open Go.RowKit

theorem own0 (w : World) (e : TypeId) (sz : Nat) {α : Type} (cl : α → List Value) : (w.alloc (.cells #[] e)).ownsRow w.heap.size e sz (.slice (some ⟨w.heap.size, 0, none⟩) 0 0) 0 (([] : List α).flatMap cl) := by
  have := World.ownsRow_lit (base := w.heap.size) (e := e) (size := sz) w #[] 0 (Nat.le_refl _) (Nat.zero_le _) (by simp)
  simpa using this
/-- Nothing, and a row behind it. -/
theorem grown_new {a w w2 : World} {o : Obj} (hg : a.grownBy w none) (hb : (w.alloc o).grownBy w2 (some w.heap.size)) : a.grownBy w2 none :=
  grown_own (hg.trans (World.grownBy_alloc w o none)) hb fun k e => by injection e with e; have := hg.size; omega
/-- Rows that may be, by what they are. -/
theorem rightGo_of : ∀ (rs : List Rw) (last : Int), rs.Pairwise (fun a b => a.id < b.id) → (∀ r ∈ rs, last < r.id ∧ r.id ≤ 2147483647 ∧ ∀ x ∈ r.fields, -2147483648 ≤ x ∧ x ≤ 2147483647) → rightGo last rs = true
  | [], _, _, _ => rfl
  | r :: rs, last, hp, h => by
    obtain ⟨h1, h2, h3⟩ := h r (by simp)
    rw [List.pairwise_cons] at hp
    have h4 : r.fields.any wideF = false := by
      rw [List.any_eq_false]
      intro x hx
      have := h3 x hx
      unfold wideF
      simp
      omega
    unfold rightGo
    rw [if_neg (by rintro (h | h | h); omega; omega; rw [h4] at h; cases h)]
    exact rightGo_of rs r.id hp.2 fun q hq => ⟨hp.1 q hq, (h q (by simp [hq])).2⟩
theorem rightB_sub {most : Int} {rs qs : List Rw} (h : rightB most rs = true) (hs : qs.Sublist rs) : rightB most qs = true := by
  obtain ⟨h1, h2, h3⟩ := right_facts h
  unfold rightB
  rw [Bool.and_eq_true]
  refine ⟨rightGo_of qs 0 (h1.sublist hs) fun r hr => h2 r (hs.subset hr), decide_eq_true ?_⟩
  have := hs.length_le
  omega
theorem rightS_parts {ps : List Pl} {ss : List Sh} (h : rightS ps ss = true) : rightB 8 (ps.map Pl.row) = true ∧ rightB 64 (ss.map Sh.row) = true :=
  (Bool.and_eq_true _ _).mp (show (rightB 8 (ps.map Pl.row) && rightB 64 (ss.map Sh.row)) = true from h)
theorem rightS_sub {ps qs : List Pl} {ss ts : List Sh} (h : rightS ps ss = true) (hp : qs.Sublist ps) (hs : ts.Sublist ss) : rightS qs ts = true := by
  obtain ⟨h1, h2⟩ := rightS_parts h
  unfold rightS
  rw [rightB_sub h1 (hp.map _), rightB_sub h2 (hs.map _)]; rfl
theorem rightS_ids {ps : List Pl} {ss : List Sh} (h : rightS ps ss = true) : ps.Pairwise fun a b => a.id < b.id := by
  have := (right_facts (rightS_parts h).1).1
  rwa [List.pairwise_map] at this
theorem rightS_v {ps : List Pl} {ss : List Sh} (h : rightS ps ss = true) : (∀ p ∈ ps, V64 p.pos) ∧ ∀ s ∈ ss, V64 s.pos := by
  obtain ⟨h1, h2⟩ := rightS_parts h
  refine ⟨fun p hp => ?_, fun p hp => ?_⟩
  · have := ((right_facts h1).2.1 _ (List.mem_map_of_mem hp)).2.2
    have hx := this p.px (by simp [Pl.row, Pl.fields])
    have hy := this p.py (by simp [Pl.row, Pl.fields])
    have hz := this p.pz (by simp [Pl.row, Pl.fields])
    refine ⟨?_, ?_, ?_⟩ <;> (unfold I64 Pl.pos; simp only; omega)
  · have := ((right_facts h2).2.1 _ (List.mem_map_of_mem hp)).2.2
    have hx := this p.px (by simp [Sh.row, Sh.fields])
    have hy := this p.py (by simp [Sh.row, Sh.fields])
    have hz := this p.pz (by simp [Sh.row, Sh.fields])
    refine ⟨?_, ?_, ?_⟩ <;> (unfold I64 Sh.pos; simp only; omega)
/-- A state lies at a block. -/
structure StAt (W : World) (b : Nat) (A : Option Addr) (m c : Nat) (A' : Option Addr) (m' c' : Nat) (ps : List Pl) (ss : List Sh) : Prop where
  blk : Blk W b 26 #[.slice A m c, .slice A' m' c']
  p : Rg 15 Pl.cl W W.heap.size A m ps
  s : Rg 11 Sh.cl W W.heap.size A' m' ss
section
variable {W W' : World} {b m c m' c' : Nat} {A A' : Option Addr} {ps : List Pl} {ss : List Sh}
theorem StAt.grown (h : StAt W b A m c A' m' c' ps ss) (hg : W.grownBy W' none) : StAt W' b A m c A' m' c' ps ss :=
  ⟨h.blk.grown hg (by simp), (h.p.grown hg (Nat.le_refl _) (by simp)).more hg.size, (h.s.grown hg (Nat.le_refl _) (by simp)).more hg.size⟩
theorem stAt_new (hp : Rg 15 Pl.cl W W.heap.size A m ps) (hs : Rg 11 Sh.cl W W.heap.size A' m' ss) : StAt (W.alloc (.cells #[.slice A m c, .slice A' m' c'] 26)) W.heap.size A m c A' m' c' ps ss :=
  ⟨Blk.new _ _ _, (hp.grown (World.grownBy_alloc _ _ none) (Nat.le_refl _) (by simp)).more (World.grownBy_alloc _ _ none).size, (hs.grown (World.grownBy_alloc _ _ none) (Nat.le_refl _) (by simp)).more (World.grownBy_alloc _ _ none).size⟩
end
theorem stBits_le {ps : List Pl} {ss : List Sh} (h : rightS ps ss = true) : (stBits ps ss).length ≤ 100000 := by
  obtain ⟨h1, h2⟩ := rightS_parts h
  have := rowsBits_le 6 14 8 (ps.map Pl.row) (fun r hr => by rw [rows14 r hr]; omega) (by have := (right_facts h1).2.2; omega)
  have := rowsBits_le 9 10 64 (ss.map Sh.row) (fun r hr => by rw [rows10 r hr]; omega) (by have := (right_facts h2).2.2; omega)
  unfold stBits
  rw [List.length_append]
  omega
set_option maxHeartbeats 16000000 in
set_option maxRecDepth 1000000 in
theorem hidden (id budget : Int) (Ap As : Option Addr) (np cp ns cs : Nat) (ps0 : List Pl) (ss0 : List Sh) (w : World) (hl : Go.Ev.Laid w) (hnp : np ≤ cp ∧ cp ≤ maxLen) (hns : ns ≤ cs ∧ cs ≤ maxLen) (hp : Rg 15 Pl.cl w w.heap.size Ap np ps0) (hs : Rg 11 Sh.cl w w.heap.size As ns ss0) :
    Calls Tryz.prog 3 #[.int .i64 id, .slice Ap np cp, .slice As ns cs, .int .i64 budget] w fun e w' => e = .returned (.bool true) ∧ w.grownBy w' none := by
  have HL := Lib.hid hl
  have HP := Lib.hid hp
  have HSH := Lib.hid hs
  have HW := Lib.hid (Go.Ev.works_calls hl)
  clear hl hp hs
  obtain ⟨mp, hm1, hm2, hm3⟩ := fewer np 8
  obtain ⟨ms, hk1, hk2, hk3⟩ := fewer ns 30
  have hmn : min (np : Int) 8 = (mp : Int) := by omega
  have hmk : min (ns : Int) 30 = (ms : Int) := by omega
  have hmc : (mp : Int) ≤ (cp : Int) := by omega
  have hkc : (ms : Int) ≤ (cs : Int) := by omega
  have HT1 : Hid (Rg 15 Pl.cl w w.heap.size Ap mp (ps0.take mp)) := Lib.hid (HP.out.take_ hm1)
  have HT2 : Hid (Rg 11 Sh.cl w w.heap.size As ms (ss0.take ms)) := Lib.hid (HSH.out.take_ hk1)
  have HM : Hid (mp ≤ 8 ∧ ms ≤ 30) := Lib.hid ⟨hm2, hk2⟩
  clear hm1 hm2 hm3 hk1 hk2 hk3 HP HSH
  obtain ⟨ps1, hps1⟩ : ∃ l, ps0.take mp = l := ⟨_, rfl⟩
  obtain ⟨ss1, hss1⟩ : ∃ l, ss0.take ms = l := ⟨_, rfl⟩
  rw [hps1] at HT1
  rw [hss1] at HT2
  clear hps1 hss1 hnp hns
  go_enter Tryz.func3, Tryz.ntmps3
  go_wp2_with (first
    | (go_at_call 5; refine HW.out.mono ?_; rintro e w1 ⟨rfl, hg⟩; have HG1 := Lib.hid hg; clear hg)
    | (at_builtin; refine wpList_append_rg rfl (.tmp 20) (.tmp 25) 22 rfl w1.heap.size 38 (Pl.val default) 15 120 Pl.cl_len Tryz.underlying22 Tryz.info38 rfl (by decide) (.slice (some ⟨w1.heap.size, 0, none⟩) 0 0) 0 [] rfl (own0 _ 38 15 _) w.heap.size Ap mp cp ps1 rfl (HT1.out.grown (HG1.out.trans (World.grownBy_alloc _ _ none)) (Nat.le_refl _) (by simp)) (Pl.one _) mp (by omega) (by have := HM.out.1; simp only [maxLen]; omega) (by have := HM.out.1; omega) (World.grownBy_alloc _ _ none).size ?_; intro A2 c2 w2 hown hgrow _; have HO2 := Lib.hid hown; have HG2 := Lib.hid (grown_new HG1.out hgrow); clear hown hgrow)
    | (at_builtin; refine wpList_append_rg rfl (.tmp 27) (.tmp 32) 23 rfl w2.heap.size 40 (Sh.val default) 11 88 Sh.cl_len Tryz.underlying23 Tryz.info40 rfl (by decide) (.slice (some ⟨w2.heap.size, 0, none⟩) 0 0) 0 [] rfl (own0 _ 40 11 _) w.heap.size As ms cs ss1 rfl (HT2.out.grown (HG2.out.trans (World.grownBy_alloc _ _ none)) (Nat.le_refl _) (by simp)) (Sh.one _) ms (by omega) (by have := HM.out.2; simp only [maxLen]; omega) (by have := HM.out.2; omega) (World.grownBy_alloc _ _ none).size ?_; intro A3 c3 w3 hown hgrow _; have HO3 := Lib.hid hown; have HQ2 := Lib.hid (own_kept HO2.out (grown_new (World.grownBy.refl _ none) hgrow)); have HG3 := Lib.hid (grown_new HG2.out hgrow); clear hown hgrow)
    | fail)
  have HS4 := Lib.hid (stAt_new (c := c2) (c' := c3) (own_rg Pl.cl_len (by decide) HQ2.out) (own_rg Sh.cl_len (by decide) HO3.out))
  simp only [List.nil_append] at HS4
  have HG4 := Lib.hid (HG3.out.trans (World.grownBy_alloc w3 (.cells #[.slice A2 mp c2, .slice A3 ms c3] 26) none))
  have HGL4 : Hid (Gl (w3.alloc (.cells #[.slice A2 mp c2, .slice A3 ms c3] 26))) := Lib.hid ((Gl.mk HL.out.players HL.out.shots).grown HG4.out)
  obtain ⟨rt, hrt⟩ : ∃ rt, rightS ps1 ss1 = rt := ⟨_, rfl⟩
  have HR1 := Lib.hid (rightS_calls _ A2 A3 mp c2 ms c3 ps1 ss1 (by have := HM.out.1; omega) (by have := HM.out.2; omega) _ HGL4.out HS4.out.p HS4.out.s (Nat.le_refl _))
  rw [hrt] at HR1
  obtain ⟨W4, hW4⟩ : ∃ W, w3.alloc (.cells #[.slice A2 mp c2, .slice A3 ms c3] 26) = W := ⟨_, rfl⟩
  obtain ⟨b1, hb1⟩ : ∃ b, w3.heap.size = b := ⟨_, rfl⟩
  rw [hW4] at HS4 HG4 HGL4 HR1 ⊢
  rw [hb1] at HS4 ⊢
  have HRT := Lib.hid hrt
  clear hW4 hb1 HT1 HT2 HG1 HG2 HG3 HO2 HO3 HQ2 HW hrt
  rcases rt with _ | _
  · refine HR1.out.mono ?_
    rintro e w5 ⟨rfl, hg⟩
    have HG5 := Lib.hid (HG4.out.trans hg)
    clear hg
    go_wp2_with fail
    go_ret
    exact ⟨rfl, HG5.out⟩
  refine HR1.out.mono ?_
  rintro e w5 ⟨rfl, hg⟩
  have HS5 := Lib.hid (HS4.out.grown hg)
  have HG5 := Lib.hid (HG4.out.trans hg)
  have HGL5 := Lib.hid (HGL4.out.grown hg)
  have c50 := HS5.out.blk.cell 0
  have c51 := HS5.out.blk.cell 1
  have HSE := Lib.hid (sees_calls w5.heap.size mp c2 ms c3 A2 A3 ps1 ss1 id budget HM.out.1 HM.out.2 (rightS_v HRT.out).1 (rightS_v HRT.out).2 w5 HS5.out.p HS5.out.s (Nat.le_refl _))
  clear hg HR1 HS4 HG4 HGL4
  go_wp2_with fail
  refine HSE.out.mono ?_
  rintro e w6 ⟨A4, n4, c4, A5, n5, c5, os, oh, rfl, hg, hp4, hs4, hpost⟩
  have HPO := Lib.hid hpost
  have HRS : Hid (rightS os oh = true) := Lib.hid (rightS_sub HRT.out hpost.sub.1 hpost.sub.2)
  have HS6 := Lib.hid (stAt_new (c := c4) (c' := c5) hp4 hs4)
  have HG6 := Lib.hid ((HG5.out.trans hg).trans (World.grownBy_alloc w6 (.cells #[.slice A4 n4 c4, .slice A5 n5 c5] 26) none))
  have HGL6 := Lib.hid ((HGL5.out.grown hg).grown (World.grownBy_alloc w6 (.cells #[.slice A4 n4 c4, .slice A5 n5 c5] 26) none))
  have HN4 : Hid (n4 ≤ 8 ∧ n5 ≤ 30) := Lib.hid (by
    have h1 := hpost.sub.1.length_le
    have h2 := hpost.sub.2.length_le
    have h3 := HS5.out.p.1
    have h4 := HS5.out.s.1
    have h5 := hp4.1
    have h6 := hs4.1
    have := HM.out
    omega)
  clear hg hp4 hs4 hpost HSE
  go_wp2_with fail
  obtain ⟨W6, hW6⟩ : ∃ W, w6.alloc (.cells #[.slice A4 n4 c4, .slice A5 n5 c5] 26) = W := ⟨_, rfl⟩
  obtain ⟨b2, hb2⟩ : ∃ b, w6.heap.size = b := ⟨_, rfl⟩
  rw [hW6] at HS6 HG6 HGL6 ⊢
  rw [hb2] at HS6 ⊢
  clear hW6 hb2 c50 c51
  have HSE2 := Lib.hid (sees_calls W6.heap.size n4 c4 n5 c5 A4 A5 os oh id budget HN4.out.1 HN4.out.2 (rightS_v HRS.out).1 (rightS_v HRS.out).2 W6 HS6.out.p HS6.out.s (Nat.le_refl _))
  refine HSE2.out.mono ?_
  rintro e w7 ⟨A7, n7, c7, A8, n8, c8, os2, oh2, rfl, hg, hp4, hs4, hpost⟩
  obtain ⟨rfl, rfl⟩ := sees_twice farF_nonneg (by omega) (rightS_ids HRT.out) (by have := HM.out.1; have := HS5.out.p.1; omega) HPO.out hpost
  obtain rfl : n7 = n4 := by rw [← hp4.1, ← HS6.out.p.1]
  obtain rfl : n8 = n5 := by rw [← hs4.1, ← HS6.out.s.1]
  have HS7 := Lib.hid (stAt_new (c := c7) (c' := c8) hp4 hs4)
  have hgw := hg.trans (World.grownBy_alloc w7 (.cells #[.slice A7 n7 c7, .slice A8 n8 c8] 26) none)
  have HS67 := Lib.hid (HS6.out.grown hgw)
  have HG7 := Lib.hid (HG6.out.trans hgw)
  have HGL7 := Lib.hid (HGL6.out.grown hgw)
  clear hg hp4 hs4 hpost HSE2 hgw
  have c60 := HS67.out.blk.cell 0
  have c61 := HS67.out.blk.cell 1
  go_wp2_with fail
  obtain ⟨W7, hW7⟩ : ∃ W, w7.alloc (.cells #[.slice A7 n7 c7, .slice A8 n8 c8] 26) = W := ⟨_, rfl⟩
  obtain ⟨b3, hb3⟩ : ∃ b, w7.heap.size = b := ⟨_, rfl⟩
  rw [hW7] at HS7 HS67 HG7 HGL7 c60 c61 ⊢
  rw [hb3] at HS7 ⊢
  clear hW7 hb3 HS6 HG6 HGL6 c60 c61
  have HL1 : Hid ((stBits os2 oh2).length ≤ 100000) := Lib.hid (stBits_le HRS.out)
  have HDE : Hid (∀ (W : World) (A A' : Option Addr) (c c' : Nat), Gl W → Rg 15 Pl.cl W W.heap.size A n7 os2 → Rg 11 Sh.cl W W.heap.size A' n8 oh2 → _) := Lib.hid fun W A A' c c' h1 h2 h3 => delta_calls W.heap.size A A' n7 c n8 c' os2 oh2 (by have := HN4.out.1; omega) (by have := HN4.out.2; omega) W h1 h2 h3 (Nat.le_refl _) HRS.out
  have HAP : Hid (∀ (W : World) (B n c : Nat) (A : Option Addr), Gl W → ((stBits os2 oh2).length + 7) / 8 = n → Rd W B A n ((pk (stBits os2 oh2) n).map bv) → B ≤ W.heap.size → _) := Lib.hid fun W B n c A h1 h2 h3 h4 => apply_calls B n c A os2 oh2 W h1 HRS.out h2 h3 h4
  obtain ⟨L, hL⟩ : ∃ L, stBits os2 oh2 = L := ⟨_, rfl⟩
  rw [hL] at HL1 HDE HAP
  obtain ⟨nb, hnb⟩ : ∃ nb, (L.length + 7) / 8 = nb := ⟨_, rfl⟩
  rw [hnb] at HDE HAP
  have HNB := Lib.hid hnb
  clear hL hnb
  refine (HDE.out W7 A4 A5 c4 c5 HGL7.out HS67.out.p HS67.out.s).mono ?_
  rintro e w8 ⟨A9, c9, rfl, ho, hg⟩
  have HS8 := Lib.hid (HS67.out.grown hg)
  have HS78 := Lib.hid (HS7.out.grown hg)
  have HG8 := Lib.hid (HG7.out.trans hg)
  have HGL8 := Lib.hid (HGL7.out.grown hg)
  have HO8 := Lib.hid ho
  have c70 := HS78.out.blk.cell 0
  have c71 := HS78.out.blk.cell 1
  clear hg ho HS67 HS7 HG7 HGL7
  go_wp2_with fail
  refine (HDE.out w8 A7 A8 c7 c8 HGL8.out HS78.out.p HS78.out.s).mono ?_
  rintro e w9 ⟨A10, c10, rfl, ho, hg⟩
  have HS9 := Lib.hid (HS8.out.grown hg)
  have HG9 := Lib.hid (HG8.out.trans hg)
  have HGL9 := Lib.hid (HGL8.out.grown hg)
  have HR9 := Lib.hid (rd_of_own (own_kept HO8.out hg))
  have HR10 := Lib.hid (rd_of_own ho)
  clear hg ho HS8 HS78 HG8 HGL8 c70 c71 HO8 HDE
  go_wp2_with fail
  refine (HAP.out w9 w9.heap.size nb c9 A9 HGL9.out rfl HR9.out (Nat.le_refl _)).mono ?_
  rintro e w10 ⟨A11, c11, A12, c12, rfl, hg, hp4, hs4⟩
  have HS10 := Lib.hid (stAt_new (c := c11) (c' := c12) hp4 hs4)
  have hgw := hg.trans (World.grownBy_alloc w10 (.cells #[.slice A11 os2.length c11, .slice A12 oh2.length c12] 26) none)
  have HS910 := Lib.hid (HS9.out.grown hgw)
  have HG10 := Lib.hid (HG9.out.trans hgw)
  have HK1 : Hid (∀ W, w9.grownBy W none → (Go.convert 29 9 (.slice A9 nb c9)).run Tryz.prog W = .ok (.string (str (pk L nb))) W) := Lib.hid fun W hW => run_string_rd W 29 5 9 Tryz.underlying29 Tryz.underlying5 Tryz.underlying9 c9 (HR9.out.keep fun p hp => World.cell?_of_block (hW.block p.block hp (by simp)))
  have HK2 : Hid (∀ W, w9.grownBy W none → (Go.convert 29 9 (.slice A10 nb c10)).run Tryz.prog W = .ok (.string (str (pk L nb))) W) := Lib.hid fun W hW => run_string_rd W 29 5 9 Tryz.underlying29 Tryz.underlying5 Tryz.underlying9 c10 (HR10.out.keep fun p hp => World.cell?_of_block (hW.block p.block hp (by simp)))
  have k1 := HK1.out _ hgw
  have k2 := HK2.out _ hgw
  have p0 := HS10.out.blk.cell 0
  have p1 := HS10.out.blk.cell 1
  have s0 := HS910.out.blk.cell 0
  have s1 := HS910.out.blk.cell 1
  have hn4 : os2.length = n7 := HS910.out.p.1
  have hn5 : oh2.length = n8 := HS910.out.s.1
  rw [hn4, hn5] at HS10 HG10 k1 k2 p0 p1 s0 s1 HS910 ⊢
  clear hg hp4 hs4 hgw hn4 hn5
  go_wp2_with fail
  obtain ⟨W10, hW10⟩ : ∃ W, w10.alloc (.cells #[.slice A11 n7 c11, .slice A12 n8 c12] 26) = W := ⟨_, rfl⟩
  obtain ⟨b4, hb4⟩ : ∃ b, w10.heap.size = b := ⟨_, rfl⟩
  rw [hW10] at HS10 HS910 HG10 ⊢
  rw [hb4] at HS10 ⊢
  clear hW10 hb4 k1 k2 p0 p1 s0 s1 HK1 HK2
  have hn8 := HN4.out.1
  have hn30 := HN4.out.2
  go_loopg [17] n7 (fun kx s wr => ∃ k : Nat, s = .int .i64 k ∧ k ≤ n7 ∧ n7 - k ≤ kx ∧ Hid (W10.grownBy wr none))
  case atStart => exact ⟨0, rfl, by omega, by omega, World.grownBy.refl _ none⟩
  case round =>
    obtain ⟨k, rfl, hk, hkx, HG⟩ := hrel
    have hcA := (HS10.out.grown HG.out).blk.cell 0
    have hcB := (HS910.out.grown HG.out).blk.cell 0
    by_cases hlt : k < n7
    · obtain ⟨g, o, p, eA, _, hx, hr⟩ := (HS10.out.grown HG.out).p.at_ Pl.cl_len hlt
      obtain ⟨g2, o2, p2, eB, _, hx2, hr2⟩ := (HS910.out.grown HG.out).p.at_ Pl.cl_len hlt
      obtain rfl : p2 = p := Option.some.inj (hx2.symm.trans hx)
      subst eA eB
      have hne : ∀ W, (binOp .neq 38 p2.val p2.val).run Tryz.prog W = .ok (.bool false) W := fun W => neq38 W p2
      have hq := pl_cells hr
      have hq2 := pl_cells hr2
      obtain ⟨f0, f1, f2, f3, f4, f5, f6, f7, f8, f9, f10, f11, f12, f13, f14⟩ := p2
      simp only at hq hq2 hne
      clear hx hx2 hr hr2
      have hbk : (k : Int) < (n7 : Int) := by omega
      go_wp2_with fail
      go_region_held3 (fun W => W.cell? ⟨b4, 0, none⟩ = some (.slice (some ⟨g, o, none⟩) n7 c11) ∧ W.cell? ⟨b2, 0, none⟩ = some (.slice (some ⟨g2, o2, none⟩) n7 c4) ∧ W.cell? ⟨g, o + k * 15, none⟩ = some (.int .i64 f0) ∧ W.cell? ⟨g, o + k * 15 + 1, none⟩ = some (.int .i64 f1) ∧ W.cell? ⟨g, o + k * 15 + 2, none⟩ = some (.int .i64 f2) ∧ W.cell? ⟨g, o + k * 15 + 3, none⟩ = some (.int .i64 f3) ∧ W.cell? ⟨g, o + k * 15 + 4, none⟩ = some (.int .i64 f4) ∧ W.cell? ⟨g, o + k * 15 + 5, none⟩ = some (.int .i64 f5) ∧ W.cell? ⟨g, o + k * 15 + 6, none⟩ = some (.int .i64 f6) ∧ W.cell? ⟨g, o + k * 15 + 7, none⟩ = some (.bool f7) ∧ W.cell? ⟨g, o + k * 15 + 8, none⟩ = some (.int .i64 f8) ∧ W.cell? ⟨g, o + k * 15 + 9, none⟩ = some (.int .i64 f9) ∧ W.cell? ⟨g, o + k * 15 + 10, none⟩ = some (.int .i64 f10) ∧ W.cell? ⟨g, o + k * 15 + 11, none⟩ = some (.int .i64 f11) ∧ W.cell? ⟨g, o + k * 15 + 12, none⟩ = some (.int .i64 f12) ∧ W.cell? ⟨g, o + k * 15 + 13, none⟩ = some (.int .i64 f13) ∧ W.cell? ⟨g, o + k * 15 + 14, none⟩ = some (.int .i64 f14) ∧ W.cell? ⟨g2, o2 + k * 15, none⟩ = some (.int .i64 f0) ∧ W.cell? ⟨g2, o2 + k * 15 + 1, none⟩ = some (.int .i64 f1) ∧ W.cell? ⟨g2, o2 + k * 15 + 2, none⟩ = some (.int .i64 f2) ∧ W.cell? ⟨g2, o2 + k * 15 + 3, none⟩ = some (.int .i64 f3) ∧ W.cell? ⟨g2, o2 + k * 15 + 4, none⟩ = some (.int .i64 f4) ∧ W.cell? ⟨g2, o2 + k * 15 + 5, none⟩ = some (.int .i64 f5) ∧ W.cell? ⟨g2, o2 + k * 15 + 6, none⟩ = some (.int .i64 f6) ∧ W.cell? ⟨g2, o2 + k * 15 + 7, none⟩ = some (.bool f7) ∧ W.cell? ⟨g2, o2 + k * 15 + 8, none⟩ = some (.int .i64 f8) ∧ W.cell? ⟨g2, o2 + k * 15 + 9, none⟩ = some (.int .i64 f9) ∧ W.cell? ⟨g2, o2 + k * 15 + 10, none⟩ = some (.int .i64 f10) ∧ W.cell? ⟨g2, o2 + k * 15 + 11, none⟩ = some (.int .i64 f11) ∧ W.cell? ⟨g2, o2 + k * 15 + 12, none⟩ = some (.int .i64 f12) ∧ W.cell? ⟨g2, o2 + k * 15 + 13, none⟩ = some (.int .i64 f13) ∧ W.cell? ⟨g2, o2 + k * 15 + 14, none⟩ = some (.int .i64 f14)) (go_keep) (fail)
      go_wp2_with fail
      go_roundg (n7 - (k + 1))
      case measure => omega
      case rel => exact ⟨k + 1, by go_num, by omega, by omega, grown_drew HG.out⟩
    · obtain rfl : k = n7 := by omega
      go_wp2_with fail
      clear hcA hcB
      go_loopg [18] n8 (fun kx s wr => ∃ k : Nat, s = .int .i64 k ∧ k ≤ n8 ∧ n8 - k ≤ kx ∧ Hid (W10.grownBy wr none))
      case atStart => exact ⟨0, rfl, by omega, by omega, HG.out⟩
      case round =>
        obtain ⟨k, rfl, hk, hkx, HG⟩ := hrel
        have hcA := (HS10.out.grown HG.out).blk.cell 1
        have hcB := (HS910.out.grown HG.out).blk.cell 1
        by_cases hlt : k < n8
        · obtain ⟨g, o, p, eA, _, hx, hr⟩ := (HS10.out.grown HG.out).s.at_ Sh.cl_len hlt
          obtain ⟨g2, o2, p2, eB, _, hx2, hr2⟩ := (HS910.out.grown HG.out).s.at_ Sh.cl_len hlt
          obtain rfl : p2 = p := Option.some.inj (hx2.symm.trans hx)
          subst eA eB
          have hne : ∀ W, (binOp .neq 40 p2.val p2.val).run Tryz.prog W = .ok (.bool false) W := fun W => neq40 W p2
          have hq := sh_cells hr
          have hq2 := sh_cells hr2
          obtain ⟨f0, f1, f2, f3, f4, f5, f6, f7, f8, f9, f10⟩ := p2
          simp only at hq hq2 hne
          clear hx hx2 hr hr2
          have hbk : (k : Int) < (n8 : Int) := by omega
          go_wp2_with fail
          go_region_held3 (fun W => W.cell? ⟨b4, 1, none⟩ = some (.slice (some ⟨g, o, none⟩) n8 c12) ∧ W.cell? ⟨b2, 1, none⟩ = some (.slice (some ⟨g2, o2, none⟩) n8 c5) ∧ W.cell? ⟨g, o + k * 11, none⟩ = some (.int .i64 f0) ∧ W.cell? ⟨g, o + k * 11 + 1, none⟩ = some (.int .i64 f1) ∧ W.cell? ⟨g, o + k * 11 + 2, none⟩ = some (.int .i64 f2) ∧ W.cell? ⟨g, o + k * 11 + 3, none⟩ = some (.int .i64 f3) ∧ W.cell? ⟨g, o + k * 11 + 4, none⟩ = some (.int .i64 f4) ∧ W.cell? ⟨g, o + k * 11 + 5, none⟩ = some (.int .i64 f5) ∧ W.cell? ⟨g, o + k * 11 + 6, none⟩ = some (.int .i64 f6) ∧ W.cell? ⟨g, o + k * 11 + 7, none⟩ = some (.int .i64 f7) ∧ W.cell? ⟨g, o + k * 11 + 8, none⟩ = some (.int .i64 f8) ∧ W.cell? ⟨g, o + k * 11 + 9, none⟩ = some (.int .i64 f9) ∧ W.cell? ⟨g, o + k * 11 + 10, none⟩ = some (.bool f10) ∧ W.cell? ⟨g2, o2 + k * 11, none⟩ = some (.int .i64 f0) ∧ W.cell? ⟨g2, o2 + k * 11 + 1, none⟩ = some (.int .i64 f1) ∧ W.cell? ⟨g2, o2 + k * 11 + 2, none⟩ = some (.int .i64 f2) ∧ W.cell? ⟨g2, o2 + k * 11 + 3, none⟩ = some (.int .i64 f3) ∧ W.cell? ⟨g2, o2 + k * 11 + 4, none⟩ = some (.int .i64 f4) ∧ W.cell? ⟨g2, o2 + k * 11 + 5, none⟩ = some (.int .i64 f5) ∧ W.cell? ⟨g2, o2 + k * 11 + 6, none⟩ = some (.int .i64 f6) ∧ W.cell? ⟨g2, o2 + k * 11 + 7, none⟩ = some (.int .i64 f7) ∧ W.cell? ⟨g2, o2 + k * 11 + 8, none⟩ = some (.int .i64 f8) ∧ W.cell? ⟨g2, o2 + k * 11 + 9, none⟩ = some (.int .i64 f9) ∧ W.cell? ⟨g2, o2 + k * 11 + 10, none⟩ = some (.bool f10)) (go_keep) (fail)
          go_wp2_with fail
          go_roundg (n8 - (k + 1))
          case measure => omega
          case rel => exact ⟨k + 1, by go_num, by omega, by omega, grown_drew HG.out⟩
        · obtain rfl : k = n8 := by omega
          go_wp2_with fail
          go_ret
          exact ⟨rfl, HG10.out.trans HG.out⟩
end Go.Proofs.YtbilegkffooioaaGreatDoor
/-
  From a row's reading of its arguments to the words of the walks: a slice of integers that came in reads as a list.
-/
namespace Go.Proofs.YtbilegkffooioaaGreatDoor
open Go.ChangeShapes Go.WideShapes Go.ChangeAt Go.RowKit

theorem cell_lt {w : World} {a : Addr} {v : Value} (h : w.cell? a = some v) : a.block < w.heap.size := by
  rcases Nat.lt_or_ge a.block w.heap.size with h' | h'
  · exact h'
  · simp [World.cell?, Array.getElem?_eq_none h'] at h
theorem rd_of_row {k : IntKind} {w : World} {x : Addr} {len cap : Nat} {zs : List Int} (hl : len ≤ cap) (hz : zs.length = cap)
    (hcell : ∀ i, i < zs.length → w.cell? (x.add i) = some (.int k (zs.getD i 0))) : Rd w w.heap.size (some x) len ((zs.take len).map (Value.int k)) := by
  refine ⟨by simp; omega, fun h0 => ?_⟩
  have hc := hcell 0 (by omega)
  obtain ⟨b, off, spot⟩ := x
  have hspot : spot = none := by simpa [Addr.add] using World.cell?_spot hc
  subst hspot
  refine ⟨b, off, rfl, by simpa [Addr.add] using cell_lt hc, fun j u hu => ?_⟩
  have hj : j < (zs.take len).length := by
    rcases Nat.lt_or_ge j (zs.take len).length with h' | h'
    · exact h'
    · rw [List.getElem?_eq_none (by simpa using h')] at hu; cases hu
  have hj2 : j < zs.length := by simp at hj; omega
  have h := hcell j hj2
  have e : (⟨b, off, none⟩ : Addr).add j = ⟨b, off + j, none⟩ := by
    unfold Addr.add
    by_cases h0 : j = 0
    · subst h0; rfl
    · rw [if_neg h0]
  rw [e] at h
  rw [h, ← hu]
  simp at hj
  simp [hj, hj2]
/-- A slice of integers that came in: its length is within its capacity, and it reads as the integers zs, each fitting its kind. -/
def IsRow (k : IntKind) (w : World) (A : Option Addr) (len cap : Nat) (zs : List Int) : Prop :=
  len ≤ cap ∧ cap ≤ maxLen ∧ Rd w w.heap.size A len (zs.map (Value.int k)) ∧ ∀ n ∈ zs, (Lit.int k n).wf = true
theorem IsRow.bytes {w : World} {A : Option Addr} {len cap : Nat} {zs : List Int} (h : IsRow .u8 w A len cap zs) :
    ∃ l : List Nat, Rd w w.heap.size A len (l.map bv) ∧ ∀ c ∈ l, c < 256 := by
  refine ⟨zs.map Int.toNat, h.2.2.1.of_ ?_, fun c hc => ?_⟩
  · rw [List.map_map]
    refine List.map_congr_left fun z hz => ?_
    have := bounds_u8 (h.2.2.2 z hz)
    simp [bv]
    omega
  · obtain ⟨z, hz, rfl⟩ := List.mem_map.1 hc
    have := bounds_u8 (h.2.2.2 z hz)
    omega

end Go.Proofs.YtbilegkffooioaaGreatDoor
/-
  From a row's reading of its arguments to the words of the walks: slices of players, of shots; and the three package variables.
-/
namespace Go.Proofs.YtbilegkffooioaaGreatDoor
open Go.ChangeShapes Go.WideShapes Go.ChangeAt Go.RowKit Go.Deep

section
variable {H : Type} {enc : TypeId × Value → H} {w : World} {base : Nat} {sp : Nat → Bool} {held : Bool}
theorem k2 : Tryz.prog.cellsOf 2 = 1 := by kernel_rfl
theorem k3 : Tryz.prog.cellsOf 3 = 1 := by kernel_rfl
theorem k4 : Tryz.prog.cellsOf 4 = 1 := by kernel_rfl
theorem k35 : Tryz.prog.cellsOf 35 = 3 := by kernel_rfl
theorem k36 : Tryz.prog.cellsOf 36 = 2 := by kernel_rfl
theorem k38 : Tryz.prog.cellsOf 38 = 15 := by kernel_rfl
theorem k40 : Tryz.prog.cellsOf 40 = 11 := by kernel_rfl
theorem int_of {k : IntKind} {n : Nat} {t : TypeId} {c : Value} {o : Option (DataW H × List MemPlace)} {x : DataW H × List MemPlace} (ht : Tryz.prog.underlying t = some (.int k)) (h : DataW.trod enc Tryz.prog w base sp held n t [c] = o) (ho : o = some x) : ∃ a : Int, c = .int k a := by
  subst ho
  obtain ⟨a, ha, _, _⟩ := DataW.trod_int ht h
  simp at ha
  exact ⟨a, ha⟩
theorem bool_of {n : Nat} {t : TypeId} {c : Value} {o : Option (DataW H × List MemPlace)} {x : DataW H × List MemPlace} (ht : Tryz.prog.underlying t = some .bool) (h : DataW.trod enc Tryz.prog w base sp held n t [c] = o) (ho : o = some x) : ∃ a : Bool, c = .bool a := by
  subst ho
  obtain ⟨a, ha, _⟩ := DataW.trod_bool ht h
  simp at ha
  exact ⟨a, ha⟩
theorem vec_of {n : Nat} {c0 c1 c2 : Value} {o : Option (DataW H × List MemPlace)} {x : DataW H × List MemPlace} (h : DataW.trod enc Tryz.prog w base sp held n 35 [c0, c1, c2] = o) (ho : o = some x) : ∃ a b c : Int, c0 = .int .i64 a ∧ c1 = .int .i64 b ∧ c2 = .int .i64 c := by
  subst ho
  obtain ⟨xs, m, _, _, _, hxl, hf⟩ := DataW.trod_struct Tryz.underlying35 h
  have hx3 : xs.length = 3 := hxl
  match xs, hx3 with
  | [x0, x1, x2], _ =>
    have h0 := hf 0 { name := "X", type := 2, offset := 0, embedded := false, tag := "", pkgPath := "", byteOffset := 0 } rfl
    have h1 := hf 1 { name := "Y", type := 2, offset := 1, embedded := false, tag := "", pkgPath := "", byteOffset := 8 } rfl
    have h2 := hf 2 { name := "Z", type := 2, offset := 2, embedded := false, tag := "", pkgPath := "", byteOffset := 16 } rfl
    simp only [k2, List.drop_zero, List.drop_succ_cons, List.take_succ_cons, List.take_zero] at h0 h1 h2
    obtain ⟨a0, rfl⟩ := int_of Tryz.underlying2 h0 rfl
    obtain ⟨a1, rfl⟩ := int_of Tryz.underlying2 h1 rfl
    obtain ⟨a2, rfl⟩ := int_of Tryz.underlying2 h2 rfl
    exact ⟨a0, a1, a2, rfl, rfl, rfl⟩
theorem two_of {n : Nat} {c0 c1 : Value} {o : Option (DataW H × List MemPlace)} {x : DataW H × List MemPlace} (h : DataW.trod enc Tryz.prog w base sp held n 36 [c0, c1] = o) (ho : o = some x) : ∃ a b : Int, c0 = .int .i64 a ∧ c1 = .int .i64 b := by
  subst ho
  obtain ⟨xs, m, _, _, _, hxl, hf⟩ := DataW.trod_array Tryz.underlying36 h
  match xs, hxl with
  | [x0, x1], _ =>
    have h0 := hf 0 (by decide)
    have h1 := hf 1 (by decide)
    simp only [k3, Nat.zero_mul, Nat.one_mul, List.drop_zero, List.drop_succ_cons, List.take_succ_cons, List.take_zero] at h0 h1
    obtain ⟨a0, rfl⟩ := int_of Tryz.underlying3 h0 rfl
    obtain ⟨a1, rfl⟩ := int_of Tryz.underlying3 h1 rfl
    exact ⟨a0, a1, rfl, rfl⟩
set_option maxRecDepth 100000 in
theorem pl_of_trod {n : Nat} {cs : List Value} {x : DataW H × List MemPlace} (h : DataW.trod enc Tryz.prog w base sp held n 38 cs = some x) : ∃ c : Pl, cs = c.cl ∧ True := by
  obtain ⟨xs, m, _, _, hlen, hxl, hf⟩ := DataW.trod_struct Tryz.underlying38 h
  have hc : cs.length = 15 := hlen.trans k38
  have hx : xs.length = 10 := hxl
  match cs, hc, xs, hx with
  | [c0, c1, c2, c3, c4, c5, c6, c7, c8, c9, c10, c11, c12, c13, c14], _, [x0, x1, x2, x3, x4, x5, x6, x7, x8, x9], _ =>
    have h0 := hf 0 { name := "ID", type := 3, offset := 0, embedded := false, tag := "", pkgPath := "", byteOffset := 0 } rfl
    have h1 := hf 1 { name := "Pos", type := 35, offset := 1, embedded := false, tag := "", pkgPath := "", byteOffset := 8 } rfl
    have h2 := hf 2 { name := "Vel", type := 35, offset := 4, embedded := false, tag := "", pkgPath := "", byteOffset := 32 } rfl
    have h3 := hf 3 { name := "Ground", type := 4, offset := 7, embedded := false, tag := "", pkgPath := "", byteOffset := 56 } rfl
    have h4 := hf 4 { name := "Health", type := 3, offset := 8, embedded := false, tag := "", pkgPath := "", byteOffset := 64 } rfl
    have h5 := hf 5 { name := "Armour", type := 3, offset := 9, embedded := false, tag := "", pkgPath := "", byteOffset := 72 } rfl
    have h6 := hf 6 { name := "Score", type := 3, offset := 10, embedded := false, tag := "", pkgPath := "", byteOffset := 80 } rfl
    have h7 := hf 7 { name := "Ammo", type := 36, offset := 11, embedded := false, tag := "", pkgPath := "", byteOffset := 88 } rfl
    have h8 := hf 8 { name := "Wait", type := 3, offset := 13, embedded := false, tag := "", pkgPath := "", byteOffset := 104 } rfl
    have h9 := hf 9 { name := "Dead", type := 3, offset := 14, embedded := false, tag := "", pkgPath := "", byteOffset := 112 } rfl
    simp only [k3, k4, k35, k36, List.drop_zero, List.drop_succ_cons, List.take_succ_cons, List.take_zero] at h0 h1 h2 h3 h4 h5 h6 h7 h8 h9
    obtain ⟨a0, rfl⟩ := int_of Tryz.underlying3 h0 rfl
    obtain ⟨a1, a2, a3, rfl, rfl, rfl⟩ := vec_of h1 rfl
    obtain ⟨a4, a5, a6, rfl, rfl, rfl⟩ := vec_of h2 rfl
    obtain ⟨a7, rfl⟩ := bool_of Tryz.underlying4 h3 rfl
    obtain ⟨a8, rfl⟩ := int_of Tryz.underlying3 h4 rfl
    obtain ⟨a9, rfl⟩ := int_of Tryz.underlying3 h5 rfl
    obtain ⟨a10, rfl⟩ := int_of Tryz.underlying3 h6 rfl
    obtain ⟨a11, a12, rfl, rfl⟩ := two_of h7 rfl
    obtain ⟨a13, rfl⟩ := int_of Tryz.underlying3 h8 rfl
    obtain ⟨a14, rfl⟩ := int_of Tryz.underlying3 h9 rfl
    exact ⟨⟨a0, a1, a2, a3, a4, a5, a6, a7, a8, a9, a10, a11, a12, a13, a14⟩, rfl, trivial⟩
set_option maxRecDepth 100000 in
theorem sh_of_trod {n : Nat} {cs : List Value} {x : DataW H × List MemPlace} (h : DataW.trod enc Tryz.prog w base sp held n 40 cs = some x) : ∃ c : Sh, cs = c.cl ∧ True := by
  obtain ⟨xs, m, _, _, hlen, hxl, hf⟩ := DataW.trod_struct Tryz.underlying40 h
  have hc : cs.length = 11 := hlen.trans k40
  have hx : xs.length = 7 := hxl
  match cs, hc, xs, hx with
  | [c0, c1, c2, c3, c4, c5, c6, c7, c8, c9, c10], _, [x0, x1, x2, x3, x4, x5, x6], _ =>
    have h0 := hf 0 { name := "ID", type := 3, offset := 0, embedded := false, tag := "", pkgPath := "", byteOffset := 0 } rfl
    have h1 := hf 1 { name := "Owner", type := 3, offset := 1, embedded := false, tag := "", pkgPath := "", byteOffset := 8 } rfl
    have h2 := hf 2 { name := "Kind", type := 3, offset := 2, embedded := false, tag := "", pkgPath := "", byteOffset := 16 } rfl
    have h3 := hf 3 { name := "Pos", type := 35, offset := 3, embedded := false, tag := "", pkgPath := "", byteOffset := 24 } rfl
    have h4 := hf 4 { name := "Vel", type := 35, offset := 6, embedded := false, tag := "", pkgPath := "", byteOffset := 48 } rfl
    have h5 := hf 5 { name := "Fuse", type := 3, offset := 9, embedded := false, tag := "", pkgPath := "", byteOffset := 72 } rfl
    have h6 := hf 6 { name := "Rest", type := 4, offset := 10, embedded := false, tag := "", pkgPath := "", byteOffset := 80 } rfl
    simp only [k3, k4, k35, List.drop_zero, List.drop_succ_cons, List.take_succ_cons, List.take_zero] at h0 h1 h2 h3 h4 h5 h6
    obtain ⟨a0, rfl⟩ := int_of Tryz.underlying3 h0 rfl
    obtain ⟨a1, rfl⟩ := int_of Tryz.underlying3 h1 rfl
    obtain ⟨a2, rfl⟩ := int_of Tryz.underlying3 h2 rfl
    obtain ⟨a3, a4, a5, rfl, rfl, rfl⟩ := vec_of h3 rfl
    obtain ⟨a6, a7, a8, rfl, rfl, rfl⟩ := vec_of h4 rfl
    obtain ⟨a9, rfl⟩ := int_of Tryz.underlying3 h5 rfl
    obtain ⟨a10, rfl⟩ := bool_of Tryz.underlying4 h6 rfl
    exact ⟨⟨a0, a1, a2, a3, a4, a5, a6, a7, a8, a9, a10⟩, rfl, trivial⟩

/-- A slice of structs that came in reads as a list. -/
theorem rg_of_slice {α : Type} (sz : Nat) (cl : α → List Value) (ok : α → Prop) {t e : TypeId} {fuel : Nat} {A : Option Addr} {len cap : Nat} {x : DataW H × List MemPlace} (ht : Tryz.prog.underlying t = some (.slice e)) (hk : Tryz.prog.cellsOf e = sz) (hsz : 0 < sz) (hcl : ∀ x, (cl x).length = sz)
    (hone : ∀ {n : Nat} {cs : List Value} {y : DataW H × List MemPlace}, DataW.trod enc Tryz.prog w base sp held n e cs = some y → ∃ c : α, cs = cl c ∧ ok c)
    (h : DataW.trod enc Tryz.prog w base sp held fuel t [.slice A len cap] = some x) :
    ∃ xs : List α, len ≤ cap ∧ cap ≤ maxLen ∧ Rg sz cl w w.heap.size A len xs ∧ ∀ c ∈ xs, ok c := by
  rcases open_slice ht h with ⟨hcs, _⟩ | ⟨a, l, c, m, n, D, Pl, hcs, _, hl, hm, hmm, hxe, hi⟩
  · simp at hcs
    obtain ⟨rfl, rfl, rfl⟩ := hcs
    exact ⟨[], Nat.le_refl _, Nat.zero_le _, Rg.nil_ _ _ _, fun _ h => by cases h⟩
  · simp at hcs
    obtain ⟨rfl, rfl, rfl⟩ := hcs
    rw [hk] at hi
    have hlm : len ≤ m := by rw [hmm]; split <;> omega
    have main : ∀ i, i < len → ∃ c : α, (∀ j u, (cl c)[j]? = some u → w.cell? (a.add (i * sz + j)) = some u) ∧ ok c := by
      intro i hil
      obtain ⟨cs', hc, ht'⟩ := hi i (by omega)
      obtain ⟨c, rfl, hok⟩ := hone ht'
      obtain ⟨_, hcl', hat⟩ := World.cells?_some hc
      refine ⟨c, fun j u hu => ?_, hok⟩
      have hj : j < sz := by rw [← hcl c]; exact (List.getElem?_eq_some_iff.1 hu).1
      have := hat j hj
      rw [add_add] at this
      rw [this, ← hu]
    obtain ⟨V, hV⟩ : ∃ xs : List α, xs.length = len ∧ ∀ i c, xs[i]? = some c → (∀ j u, (cl c)[j]? = some u → w.cell? (a.add (i * sz + j)) = some u) ∧ ok c := by
      clear hi hmm hl hm h hlm hxe
      induction len with
      | zero => exact ⟨[], rfl, fun i c h => by simp at h⟩
      | succ k ih =>
        obtain ⟨xs, hx1, hx2⟩ := ih (fun i hi => main i (by omega))
        obtain ⟨c, hc⟩ := main k (by omega)
        refine ⟨xs ++ [c], by simp [hx1], fun i d hd => ?_⟩
        rcases Nat.lt_or_ge i xs.length with hlt | hge
        · rw [List.getElem?_append_left hlt] at hd
          exact hx2 i d hd
        · rw [List.getElem?_append_right hge] at hd
          have hi0 : i - xs.length = 0 := by
            rcases Nat.eq_zero_or_pos (i - xs.length) with h0 | h0
            · exact h0
            · rw [List.getElem?_eq_none (by simp; omega)] at hd; cases hd
          rw [hi0] at hd
          simp at hd
          subst hd
          have : i = k := by omega
          subst this
          exact hc
    refine ⟨V, hl, hm, ⟨hV.1, fun h0 => ?_⟩, fun c hc => ?_⟩
    · have hlv := hV.1
      have hV0 := hV.2 0 V[0] (List.getElem?_eq_getElem (by omega))
      have hc0 := hV0.1 0 ((cl V[0])[0]'(by rw [hcl]; exact hsz)) (List.getElem?_eq_getElem _)
      obtain ⟨b, off, spot⟩ := a
      have hspot : spot = none := by simpa [Addr.add] using World.cell?_spot hc0
      subst hspot
      refine ⟨b, off, rfl, ?_, fun j u hu => ?_⟩
      · have := cell_lt hc0
        simpa [Addr.add] using this
      · have hj : j < (V.flatMap cl).length := (List.getElem?_eq_some_iff.1 hu).1
        rw [flat_len hcl, hV.1] at hj
        have hq : j / sz < len := Nat.div_lt_of_lt_mul (by rw [Nat.mul_comm]; exact hj)
        have hr : j % sz < sz := Nat.mod_lt _ hsz
        have he : j / sz * sz + j % sz = j := Nat.div_add_mod' j sz
        have h1 := flat_at hcl V (j / sz) V[j / sz] (List.getElem?_eq_getElem (by omega)) (j % sz) ((cl V[j / sz])[j % sz]'(by rw [hcl]; exact hr)) (List.getElem?_eq_getElem _)
        rw [he, hu] at h1
        have h2 := (hV.2 (j / sz) V[j / sz] (List.getElem?_eq_getElem (by omega))).1 (j % sz) _ (List.getElem?_eq_getElem (by rw [hcl]; exact hr))
        rw [he, Addr.add_mid] at h2
        rw [h2, h1]
    · obtain ⟨i, hi, rfl⟩ := List.mem_iff_getElem.1 hc
      exact (hV.2 i _ (List.getElem?_eq_getElem hi)).2
end
end Go.Proofs.YtbilegkffooioaaGreatDoor
/-
  What the conditions on the laid variables give the walks: their cells, in their types.
-/
namespace Go.Proofs.YtbilegkffooioaaGreatDoor
open Go.ChangeShapes Go.WideShapes Go.ChangeAt Go.RowKit

theorem gn0 : Tryz.prog.globalNamed "embrasure/view.players" = some 0 := by kernel_rfl
theorem gn1 : Tryz.prog.globalNamed "embrasure/view.shots" = some 1 := by kernel_rfl
theorem gn2 : Tryz.prog.globalNamed "embrasure/crc.halves" = some 2 := by kernel_rfl
theorem gt0 : (Tryz.prog.globals[0]?).map (·.type) = some 83 := by kernel_rfl
theorem gt1 : (Tryz.prog.globals[1]?).map (·.type) = some 83 := by kernel_rfl
theorem gt2 : (Tryz.prog.globals[2]?).map (·.type) = some 421 := by kernel_rfl
theorem gsz : 3 ≤ Tryz.prog.globals.size := of_decide_eq_true (by kernel_rfl)
theorem gr0 : (((begin Tryz.prog (fun _ _ => 0) default).world.heap[0]?).bind Obj.row?).map (·.2) = some 83 := by kernel_rfl
theorem gr1 : (((begin Tryz.prog (fun _ _ => 0) default).world.heap[1]?).bind Obj.row?).map (·.2) = some 83 := by kernel_rfl
theorem gr2 : (((begin Tryz.prog (fun _ _ => 0) default).world.heap[2]?).bind Obj.row?).map (·.2) = some 421 := by kernel_rfl
theorem kc83 : Tryz.prog.cellsOf 83 = 3 := by kernel_rfl
theorem kc421 : Tryz.prog.cellsOf 421 = 16 := by kernel_rfl
theorem kc69 : Tryz.prog.cellsOf 69 = 1 := by kernel_rfl
theorem kc3 : Tryz.prog.cellsOf 3 = 1 := by kernel_rfl
/-- A global's block. -/
theorem global_at {W : World} (hs : W.ShapedOpen Tryz.prog) {g : Nat} {t : TypeId} {name : String} {cs : Array Value} (hg : g < 3) (hn : Tryz.prog.globalNamed name = some g)
    (hr : (((begin Tryz.prog (fun _ _ => 0) default).world.heap[g]?).bind Obj.row?).map (·.2) = some t) (hv : W.var? Tryz.prog name = some cs) : W.heap[g]? = some (.cells cs t (0, 0)) := by
  obtain ⟨⟨zero, t'⟩, hz, ht⟩ := Option.map_eq_some_iff.1 hr
  simp only at ht
  subst ht
  obtain ⟨cs', hc, _⟩ := hs.1 g zero t' (Nat.lt_of_lt_of_le hg gsz) hz
  unfold World.var? at hv
  rw [hn, Option.bind_some, hc] at hv
  injection hv with hv
  rw [hc, hv]
theorem sort_of {W : World} {fuel : Nat} {cs : Array Value} {a b c : Int} {p : List MemPlace} (h : DataW.trod (fun _ => ()) Tryz.prog W 0 (fun _ => true) false fuel 83 cs.toList = some (.agg [.lit (.int .i64 a), .lit (.int .i64 b), .lit (.int .i64 c)], p)) : cs = #[.int .i64 a, .int .i64 b, .int .i64 c] := by
  obtain ⟨xs, m, _, hx, hlen, hxl, hf⟩ := DataW.trod_struct Tryz.underlying83 h
  have hc : cs.toList.length = 3 := hlen.trans kc83
  have hx3 : xs.length = 3 := hxl
  have hcs : ∀ l : List Value, cs.toList = l → cs = l.toArray := fun l e => by rw [← e]
  match hl : cs.toList, hc, xs, hx3 with
  | [c0, c1, c2], _, [x0, x1, x2], _ =>
    have h0 := hf 0 { name := "fields", type := 3, offset := 0, embedded := false, tag := "", pkgPath := "embrasure/view", byteOffset := 0 } rfl
    have h1 := hf 1 { name := "flag", type := 3, offset := 1, embedded := false, tag := "", pkgPath := "embrasure/view", byteOffset := 8 } rfl
    have h2 := hf 2 { name := "most", type := 3, offset := 2, embedded := false, tag := "", pkgPath := "embrasure/view", byteOffset := 16 } rfl
    simp only [hl, kc3, List.drop_zero, List.drop_succ_cons, List.take_succ_cons, List.take_zero] at h0 h1 h2
    obtain ⟨a0, e0, f0, _⟩ := DataW.trod_int Tryz.underlying3 (h0.trans rfl)
    obtain ⟨a1, e1, f1, _⟩ := DataW.trod_int Tryz.underlying3 (h1.trans rfl)
    obtain ⟨a2, e2, f2, _⟩ := DataW.trod_int Tryz.underlying3 (h2.trans rfl)
    subst f0 f1 f2
    simp at e0 e1 e2 hx
    obtain ⟨⟨rfl, rfl, rfl⟩, _⟩ := hx
    rw [hcs _ hl, e0, e1, e2]
def halvesZs : List Int := [0, 4129, 8258, 12387, 16516, 20645, 24774, 28903, 33032, 37161, 41290, 45419, 49548, 53677, 57806, 61935]
theorem of_laid {W : World} (hs : W.ShapedOpen Tryz.prog) (h : laidMetH Tryz.prog [("embrasure/crc.halves", Rows.laid_embrasure_crc_halves), ("embrasure/view.players", Rows.laid_embrasure_view_players), ("embrasure/view.shots", Rows.laid_embrasure_view_shots)] W) : Go.Ev.Laid W := by
  rw [MakeChecks.laidMetH_plain _ _ _ (by kernel_rfl)] at h
  obtain ⟨_, ⟨g2, t2, cs2, fu2, p2, _, hg2, ht2, hv2, hd2, ⟨g0, t0, cs0, fu0, p0, _, hg0, ht0, hv0, hd0, ⟨g1, t1, cs1, fu1, p1, _, hg1, ht1, hv1, hd1, _⟩, _⟩, _⟩, _⟩ := h
  obtain rfl := Option.some.inj (gn0.symm.trans hg0)
  obtain rfl := Option.some.inj (gn1.symm.trans hg1)
  obtain rfl := Option.some.inj (gn2.symm.trans hg2)
  obtain rfl := Option.some.inj (gt0.symm.trans ht0)
  obtain rfl := Option.some.inj (gt1.symm.trans ht1)
  obtain rfl := Option.some.inj (gt2.symm.trans ht2)
  have h0 := global_at hs (by decide) gn0 gr0 hv0
  have h1 := global_at hs (by decide) gn1 gr1 hv1
  have h2 := global_at hs (by decide) gn2 gr2 hv2
  have e2 : cs2.toList = halvesZs.map fun z => Value.int .u16 z := Lib.cells_of_tab Tryz.underlying421 Tryz.underlying69 kc69 kc421 hd2
  rw [sort_of hd0] at h0
  rw [sort_of hd1] at h1
  rw [show cs2 = (halvesZs.map fun z => Value.int .u16 z).toArray by rw [← e2]] at h2
  exact ⟨h0, h1, h2⟩

section
variable {H : Type} {enc : TypeId × Value → H}
/-- The road from a row to a contract, the world being shaped. -/
theorem returnsIn_shaped {C : Checked} {os : Os} {f : FuncId} {fn : Func} {s : ChangeSpec} {conds : List PathCond} {apart fresh handsOn again : Bool} {X : World → Array Value → Prop}
    (hX : ∀ (w w' : World) (args : Array Value), w.heap = w'.heap → X w args → X w' args)
    (own : ownKnob C.prog.godebug = none) (started : os.Started) (noInit : C.prog.inits.idxOf? f = none) (hfn : C.prog.funcs[f]? = some fn)
    (witness : ∃ (w : World) (tape : Tape) (i : Input), w.os = os ∧ (w.forCall tape i).Shaped C.prog ∧ i.vars = [] ∧ Input.okWide C.prog (w.forCall tape i) .any w.heap.size f i ∧
      ((s.pre enc C.prog fn conds apart (w.forCall tape i).memory i.args ∧ X (w.forCall tape i).memory i.args) ∧ sizedMet enc C.prog fn (OpenSpec.ofChange s) apart (w.forCall tape i).memory i.args) ∧ Assume.holds {} C.prog (lone (Frame.enter C.prog f i.args .normal) [] (w.forCall tape i)))
    (contract : ∀ (W : World) (base : Nat) (args : Array Value) (ds gs : List (DataW H)) (before : List MemPlace), W.ShapedOpen C.prog →
      (∀ (j : Nat) t v, fn.params[j]? = some t → args[j]? = some v → Value.okWide C.prog W .any base t v) →
      DataW.Whole enc C.prog fn.params.toList s.vars apart W args.toList ds gs before → X W args →
      Calls C.prog f args W fun e W' => ∃ v, e = .returned v ∧ s.post enc C.prog fn apart fresh handsOn again W args v W') :
    ReturnsInHanded {} C os f .any (fun w args => (s.pre enc C.prog fn conds apart w args ∧ X w args) ∧ sizedMet enc C.prog fn (OpenSpec.ofChange s) apart w args) (s.post enc C.prog fn apart fresh handsOn again) := by
  refine returnsInHanded_of_calls own started noInit witness ?_
  intro w tape i _ hsh _ hok hpre _
  obtain ⟨_, _, _, fn', hfn', _, _, _, _, hval⟩ := hok
  obtain rfl : fn' = fn := Option.some.inj (hfn'.symm.trans hfn)
  obtain ⟨⟨⟨ds, gs, before, hw, _⟩, hx⟩, _⟩ := hpre
  refine (contract (w.forCall tape i) w.heap.size i.args ds gs before hsh hval (DataW.Whole.of_heap (w' := w.forCall tape i) (by rfl) hw) (hX _ _ _ (by rfl) hx)).mono fun e W' ⟨v, he, hp⟩ => ?_
  subst he
  exact ChangeSpec.post_blind hp
end
end Go.Proofs.YtbilegkffooioaaGreatDoor
/-
  Closed facts of the rows' form, one by one (together they pass the kernel's memory).
-/
namespace Go.Proofs.YtbilegkffooioaaGreatDoor
theorem inPlace3 : Tryz.prog.inPlace 3 = ["math/bits.Add64", "slices.overlaps[embrasure/view.row]"] := by kernel_rfl
theorem unfollowed3 : Tryz.prog.unfollowed 3 = true := by kernel_rfl
theorem recurses3 : Tryz.prog.recurses 3 = true := by unfold Program.recurses; rw [unfollowed3]; rfl
theorem varsNamed3 : Tryz.prog.varsNamed 3 = ["embrasure/crc.halves", "embrasure/view.players", "embrasure/view.shots"] := by kernel_rfl
theorem closed3 : joinedFacts Tryz.prog 3 Tryz.f3 Rows.topHiddenSpec Rows.topHiddenRow = true := by
  unfold joinedFacts
  rw [inPlace3, unfollowed3, recurses3, varsNamed3]
  kernel_rfl
end Go.Proofs.YtbilegkffooioaaGreatDoor
