/-
  view's rows become things (shots).
-/
import Derived.Test.YtbilegkffooioaaGreatDoorM06
import Derived.Test.YtbilegkffooioaaGreatDoorM04
import Derived.Test.YtbilegkffooioaaGreatDoorM01
import Derived.Test.YtbilegkffooioaaGreatDoorM05
namespace Go.Proofs.YtbilegkffooioaaGreatDoor
open Go.RowKit

/-- The world in which a row becomes one. -/
def PShV (w : World) (id : Int) (v : Value) : World := (w.alloc (.cells #[.int .i64 id, v] 89)).alloc (.cells #[.int .i64 0, .int .i64 0, .int .i64 0, .int .i64 0, .int .i64 0, .int .i64 0, .int .i64 0, .int .i64 0, .int .i64 0, .int .i64 0, .bool false] 40)
theorem PShV_grown (w : World) (id : Int) (v : Value) : w.grownBy (PShV w id v) none := (World.grownBy_alloc _ _ none).trans (World.grownBy_alloc _ _ none)
theorem PShV_blks {w W : World} {id : Int} {v : Value} (hg : (PShV w id v).grownBy W none) : Blk W w.heap.size 89 #[.int .i64 id, v] ∧ Blk W (w.heap.size + 1) 40 #[.int .i64 0, .int .i64 0, .int .i64 0, .int .i64 0, .int .i64 0, .int .i64 0, .int .i64 0, .int .i64 0, .int .i64 0, .int .i64 0, .bool false] := by
  have e1 : (w.alloc (.cells #[.int .i64 id, v] 89)).heap.size = w.heap.size + 1 := by simp
  have h1 := (Blk.new w 89 #[.int .i64 id, v]).alloc (.cells #[.int .i64 0, .int .i64 0, .int .i64 0, .int .i64 0, .int .i64 0, .int .i64 0, .int .i64 0, .int .i64 0, .int .i64 0, .int .i64 0, .bool false] 40)
  have h2 := Blk.new (w.alloc (.cells #[.int .i64 id, v] 89)) 40 #[.int .i64 0, .int .i64 0, .int .i64 0, .int .i64 0, .int .i64 0, .int .i64 0, .int .i64 0, .int .i64 0, .int .i64 0, .int .i64 0, .bool false]
  rw [e1] at h2
  exact ⟨h1.grown hg (by simp), h2.grown hg (by simp)⟩
theorem PShV_keep {w W : World} {v : Value} {g : Nat} {p : Sh} (h : ∀ j u, (ints p.fields)[j]? = some u → w.cell? ⟨g, 0 + j, none⟩ = some u) (hg : (PShV w p.id v).grownBy W none) :
    W.cell? ⟨w.heap.size, 0, none⟩ = some (.int .i64 p.id) ∧ W.cell? ⟨g, 0, none⟩ = some (.int .i64 p.owner) ∧ W.cell? ⟨g, 1, none⟩ = some (.int .i64 p.kind) ∧ W.cell? ⟨g, 2, none⟩ = some (.int .i64 p.px) ∧ W.cell? ⟨g, 3, none⟩ = some (.int .i64 p.py) ∧ W.cell? ⟨g, 4, none⟩ = some (.int .i64 p.pz) ∧ W.cell? ⟨g, 5, none⟩ = some (.int .i64 p.vx) ∧ W.cell? ⟨g, 6, none⟩ = some (.int .i64 p.vy) ∧ W.cell? ⟨g, 7, none⟩ = some (.int .i64 p.vz) ∧ W.cell? ⟨g, 8, none⟩ = some (.int .i64 p.fuse) ∧ W.cell? ⟨g, 9, none⟩ = some (.int .i64 (flagZ p.rest)) := by
  have kk : ∀ (j : Nat) (u : Value), (ints p.fields)[j]? = some u → W.cell? ⟨g, j, none⟩ = some u := fun j u hu => by
    have := grown_at ((PShV_grown w p.id v).trans hg) g (0 + j) u (h j u hu) (World.block_lt_of_cell? w _ (h j u hu)) (by simp)
    rwa [Nat.zero_add] at this
  exact ⟨(PShV_blks hg).1.cell 0, kk 0 _ rfl, kk 1 _ rfl, kk 2 _ rfl, kk 3 _ rfl, kk 4 _ rfl, kk 5 _ rfl, kk 6 _ rfl, kk 7 _ rfl, kk 8 _ rfl, kk 9 _ rfl⟩
theorem PShV_free {w W : World} {id : Int} {v : Value} (hg : (PShV w id v).grownBy W none) : W.cell? ⟨w.heap.size + 1, 0, none⟩ = some (.int .i64 0) ∧ W.cell? ⟨w.heap.size + 1, 1, none⟩ = some (.int .i64 0) ∧ W.cell? ⟨w.heap.size + 1, 2, none⟩ = some (.int .i64 0) ∧ W.cell? ⟨w.heap.size + 1, 3, none⟩ = some (.int .i64 0) ∧ W.cell? ⟨w.heap.size + 1, 4, none⟩ = some (.int .i64 0) ∧ W.cell? ⟨w.heap.size + 1, 5, none⟩ = some (.int .i64 0) ∧ W.cell? ⟨w.heap.size + 1, 6, none⟩ = some (.int .i64 0) ∧ W.cell? ⟨w.heap.size + 1, 7, none⟩ = some (.int .i64 0) ∧ W.cell? ⟨w.heap.size + 1, 8, none⟩ = some (.int .i64 0) ∧ W.cell? ⟨w.heap.size + 1, 9, none⟩ = some (.int .i64 0) ∧ W.cell? ⟨w.heap.size + 1, 10, none⟩ = some (.bool false) ∧ W.frozen? ⟨w.heap.size + 1, 0, none⟩ = false ∧ W.frozen? ⟨w.heap.size + 1, 1, none⟩ = false ∧ W.frozen? ⟨w.heap.size + 1, 2, none⟩ = false ∧ W.frozen? ⟨w.heap.size + 1, 3, none⟩ = false ∧ W.frozen? ⟨w.heap.size + 1, 4, none⟩ = false ∧ W.frozen? ⟨w.heap.size + 1, 5, none⟩ = false ∧ W.frozen? ⟨w.heap.size + 1, 6, none⟩ = false ∧ W.frozen? ⟨w.heap.size + 1, 7, none⟩ = false ∧ W.frozen? ⟨w.heap.size + 1, 8, none⟩ = false ∧ W.frozen? ⟨w.heap.size + 1, 9, none⟩ = false ∧ W.frozen? ⟨w.heap.size + 1, 10, none⟩ = false := by
  obtain ⟨_, h2⟩ := PShV_blks hg
  exact ⟨h2.cell 0, h2.cell 1, h2.cell 2, h2.cell 3, h2.cell 4, h2.cell 5, h2.cell 6, h2.cell 7, h2.cell 8, h2.cell 9, h2.cell 10, h2.free 0, h2.free 1, h2.free 2, h2.free 3, h2.free 4, h2.free 5, h2.free 6, h2.free 7, h2.free 8, h2.free 9, h2.free 10⟩

set_option maxHeartbeats 8000000 in
set_option maxRecDepth 1000000 in
/-- A row becomes one. -/
theorem toSh_calls (g cp : Nat) (p : Sh) (w : World) (h : ∀ j u, (ints p.fields)[j]? = some u → w.cell? ⟨g, 0 + j, none⟩ = some u) (hcp : 10 ≤ cp) (hgl : g < w.heap.size) :
    Calls Tryz.prog 52 #[.agg #[.int .i64 p.id, .slice (some ⟨g, 0, none⟩) 10 cp]] w fun e w' => e = .returned p.val ∧ w.grownBy w' none := by
  have HK : Hid (∀ W, (PShV w p.id (.slice (some ⟨g, 0, none⟩) 10 cp)).grownBy W none → _) := Lib.hid fun W hg => PShV_keep (W := W) h hg
  have HV0 : Hid ((PShV w p.id (.slice (some ⟨g, 0, none⟩) 10 cp)).grownBy (PShV w p.id (.slice (some ⟨g, 0, none⟩) 10 cp)).drew none) := Lib.hid ⟨rfl, rfl, rfl, Nat.le_refl _, fun _ _ _ => rfl⟩
  have n1 : ¬ (w.heap.size + 1 = w.heap.size) := by omega
  have n2 : ¬ (w.heap.size + 1 = g) := by omega
  have hb1 : (10 : Int) ≤ (cp : Int) := by omega
  have hq2 : (2 : Int) ≤ (cp : Int) := by omega
  have hq5 : (5 : Int) ≤ (cp : Int) := by omega
  have hc2 : ¬ (cp = 2) := by omega
  have hc5 : ¬ (cp = 5) := by omega
  clear h hgl hcp
  obtain ⟨f0, f1, f2, f3, f4, f5, f6, f7, f8, f9, f10⟩ := p
  rcases f10 with _ | _
  · go_enter Tryz.func52, Tryz.ntmps52
    go_wp2_with fail
    have hk0 := HK.out _ HV0.out
    unfold PShV at hk0
    simp only [flagZ, Bool.false_eq_true, if_false] at hk0 HK
    obtain ⟨k0, k1, k2, k3, k4, k5, k6, k7, k8, k9, k10⟩ := hk0
    go_region_held3 (fun W => W.cell? ⟨w.heap.size, 0, none⟩ = some (.int .i64 f0) ∧ W.cell? ⟨g, 0, none⟩ = some (.int .i64 f1) ∧ W.cell? ⟨g, 1, none⟩ = some (.int .i64 f2) ∧ W.cell? ⟨g, 2, none⟩ = some (.int .i64 f3) ∧ W.cell? ⟨g, 3, none⟩ = some (.int .i64 f4) ∧ W.cell? ⟨g, 4, none⟩ = some (.int .i64 f5) ∧ W.cell? ⟨g, 5, none⟩ = some (.int .i64 f6) ∧ W.cell? ⟨g, 6, none⟩ = some (.int .i64 f7) ∧ W.cell? ⟨g, 7, none⟩ = some (.int .i64 f8) ∧ W.cell? ⟨g, 8, none⟩ = some (.int .i64 f9) ∧ W.cell? ⟨g, 9, none⟩ = some (.int .i64 0)) (go_keep)
      (first
        | (go_at_call 116; have hx := HG1.out; refine (vec_calls g 5 5 _ f6 f7 f8 w1 (hk1.2.2.2.2.2.2.1) (hk1.2.2.2.2.2.2.2.1) (hk1.2.2.2.2.2.2.2.2.1) (by decide)).mono ?_; rintro e w2 ⟨rfl, hg⟩; have HG2 := Lib.hid (hx.trans hg); clear hx hg; have hk2 := HK.out _ HG2.out; have hf2 := PShV_free HG2.out)
        | (go_at_call 116; refine (vec_calls g 2 8 _ f3 f4 f5 _ k3 k4 k5 (by decide)).mono ?_; rintro e w1 ⟨rfl, hg⟩; have HG1 := Lib.hid (HV0.out.trans hg); clear hg; have hk1 := HK.out _ HG1.out))
    go_wp2
    have hb : Blk _ (w.heap.size + 1) 40 #[.int .i64 f0, .int .i64 f1, .int .i64 f2, .int .i64 f3, .int .i64 f4, .int .i64 f5, .int .i64 f6, .int .i64 f7, .int .i64 f8, .int .i64 f9, .bool false] := (((((((((((((PShV_blks HG2.out).2.put 0 (.int .i64 f0)).put 1 (.int .i64 f1)).put 2 (.int .i64 f2)).put 3 (.int .i64 f3)).put 4 (.int .i64 f4)).put 5 (.int .i64 f5)).put 6 (.int .i64 f6)).put 7 (.int .i64 f7)).put 8 (.int .i64 f8)).put 9 (.int .i64 f9)).put 10 (.bool false))).of_ (by simp only [List.setIfInBounds_toArray, List.set_cons_zero, List.set_cons_succ])
    refine bodyPost_ret (results_cell_row (cs := #[.int .i64 f0, .int .i64 f1, .int .i64 f2, .int .i64 f3, .int .i64 f4, .int .i64 f5, .int .i64 f6, .int .i64 f7, .int .i64 f8, .int .i64 f9, .bool false]) rfl _ _ (w.heap.size + 1) 40 (0, 0) _ rfl hb Tryz.underlying40 rfl Tryz.size40) rfl ?_
    exact ⟨rfl, set_lo (set_lo (set_lo (set_lo (set_lo (set_lo (set_lo (set_lo (set_lo (set_lo (set_lo ((PShV_grown w _ _).trans HG2.out) (Nat.le_succ _) 0 _) (Nat.le_succ _) 1 _) (Nat.le_succ _) 2 _) (Nat.le_succ _) 3 _) (Nat.le_succ _) 4 _) (Nat.le_succ _) 5 _) (Nat.le_succ _) 6 _) (Nat.le_succ _) 7 _) (Nat.le_succ _) 8 _) (Nat.le_succ _) 9 _) (Nat.le_succ _) 10 _⟩
  · go_enter Tryz.func52, Tryz.ntmps52
    go_wp2_with fail
    have hk0 := HK.out _ HV0.out
    unfold PShV at hk0
    simp only [flagZ, if_true] at hk0 HK
    obtain ⟨k0, k1, k2, k3, k4, k5, k6, k7, k8, k9, k10⟩ := hk0
    go_region_held3 (fun W => W.cell? ⟨w.heap.size, 0, none⟩ = some (.int .i64 f0) ∧ W.cell? ⟨g, 0, none⟩ = some (.int .i64 f1) ∧ W.cell? ⟨g, 1, none⟩ = some (.int .i64 f2) ∧ W.cell? ⟨g, 2, none⟩ = some (.int .i64 f3) ∧ W.cell? ⟨g, 3, none⟩ = some (.int .i64 f4) ∧ W.cell? ⟨g, 4, none⟩ = some (.int .i64 f5) ∧ W.cell? ⟨g, 5, none⟩ = some (.int .i64 f6) ∧ W.cell? ⟨g, 6, none⟩ = some (.int .i64 f7) ∧ W.cell? ⟨g, 7, none⟩ = some (.int .i64 f8) ∧ W.cell? ⟨g, 8, none⟩ = some (.int .i64 f9) ∧ W.cell? ⟨g, 9, none⟩ = some (.int .i64 1)) (go_keep)
      (first
        | (go_at_call 116; have hx := HG1.out; refine (vec_calls g 5 5 _ f6 f7 f8 w1 (hk1.2.2.2.2.2.2.1) (hk1.2.2.2.2.2.2.2.1) (hk1.2.2.2.2.2.2.2.2.1) (by decide)).mono ?_; rintro e w2 ⟨rfl, hg⟩; have HG2 := Lib.hid (hx.trans hg); clear hx hg; have hk2 := HK.out _ HG2.out; have hf2 := PShV_free HG2.out)
        | (go_at_call 116; refine (vec_calls g 2 8 _ f3 f4 f5 _ k3 k4 k5 (by decide)).mono ?_; rintro e w1 ⟨rfl, hg⟩; have HG1 := Lib.hid (HV0.out.trans hg); clear hg; have hk1 := HK.out _ HG1.out))
    go_wp2
    have hb : Blk _ (w.heap.size + 1) 40 #[.int .i64 f0, .int .i64 f1, .int .i64 f2, .int .i64 f3, .int .i64 f4, .int .i64 f5, .int .i64 f6, .int .i64 f7, .int .i64 f8, .int .i64 f9, .bool true] := (((((((((((((PShV_blks HG2.out).2.put 0 (.int .i64 f0)).put 1 (.int .i64 f1)).put 2 (.int .i64 f2)).put 3 (.int .i64 f3)).put 4 (.int .i64 f4)).put 5 (.int .i64 f5)).put 6 (.int .i64 f6)).put 7 (.int .i64 f7)).put 8 (.int .i64 f8)).put 9 (.int .i64 f9)).put 10 (.bool true))).of_ (by simp only [List.setIfInBounds_toArray, List.set_cons_zero, List.set_cons_succ])
    refine bodyPost_ret (results_cell_row (cs := #[.int .i64 f0, .int .i64 f1, .int .i64 f2, .int .i64 f3, .int .i64 f4, .int .i64 f5, .int .i64 f6, .int .i64 f7, .int .i64 f8, .int .i64 f9, .bool true]) rfl _ _ (w.heap.size + 1) 40 (0, 0) _ rfl hb Tryz.underlying40 rfl Tryz.size40) rfl ?_
    exact ⟨rfl, set_lo (set_lo (set_lo (set_lo (set_lo (set_lo (set_lo (set_lo (set_lo (set_lo (set_lo ((PShV_grown w _ _).trans HG2.out) (Nat.le_succ _) 0 _) (Nat.le_succ _) 1 _) (Nat.le_succ _) 2 _) (Nat.le_succ _) 3 _) (Nat.le_succ _) 4 _) (Nat.le_succ _) 5 _) (Nat.le_succ _) 6 _) (Nat.le_succ _) 7 _) (Nat.le_succ _) 8 _) (Nat.le_succ _) 9 _) (Nat.le_succ _) 10 _⟩
end Go.Proofs.YtbilegkffooioaaGreatDoor
/-
  view's rows become things (each).
-/
namespace Go.Proofs.YtbilegkffooioaaGreatDoor
open Go.RowKit

theorem rg_litP {α : Type} {sz : Nat} {cl : α → List Value} (w : World) (x : α) (t : TypeId) {cs : Array Value} (hcs : cs = (cl x).toArray) : Rg sz cl (w.alloc (.cells cs t)) (w.heap.size + 1) (some ⟨w.heap.size, 0, none⟩) 1 [x] := by
  subst hcs
  refine ⟨rfl, fun _ => ⟨w.heap.size, 0, rfl, by omega, fun j u hu => ?_⟩⟩
  rw [Nat.zero_add]
  have e1 := cell_of_row _ _ j (cl x).toArray t (0, 0) (heap_alloc_new w (.cells (cl x).toArray t))
  rw [e1, List.getElem?_toArray]
  simpa using hu

set_option maxHeartbeats 8000000 in
set_option maxRecDepth 1000000 in
/-- Each becomes one. -/
theorem eachPlOf_calls (n c lo : Nat) (A : Option Addr) (ps : List Pl) (hn : n ≤ 1000000) (w : World) (h : RowsC w lo A n (ps.map Pl.row)) :
    Calls Tryz.prog 48 #[.slice A n c, .func (.func 50) #[] #[]] w fun e w' => ∃ A' c', e = .returned (.slice A' n c') ∧ w.grownBy w' none ∧ w'.ownsRow w.heap.size 38 15 (.slice A' n c') n (ps.flatMap Pl.cl) := by
  obtain ⟨vs, hvs, hr, hF, hC⟩ := h
  have HR := Lib.hid hr
  have HF := Lib.hid hF
  have HCP := Lib.hid hC
  have HV := Lib.hid hvs
  have hpl : ps.length = n := by rw [← hr.1, ← List.length_map (f := Rv.row), hvs, List.length_map]
  have HPL := Lib.hid hpl
  clear hr hF hvs hpl hC
  go_enter Tryz.func48, Tryz.ntmps48
  go_wp2_with fail
  go_loopg [4, 9] n (fun kx s4 s9 wr => ∃ (k : Nat) (A' : Option Addr) (c' : Nat), s4 = .slice A' k c' ∧ s9 = .int .i64 k ∧ k ≤ n ∧ n - k ≤ kx ∧ Hid (w.grownBy wr none) ∧ Hid (wr.ownsRow w.heap.size 38 15 (.slice A' k c') k ((ps.take k).flatMap Pl.cl)))
  case atStart => exact ⟨0, none, 0, rfl, rfl, by omega, by omega, World.grownBy.refl w none, World.ownsRow_nil w _ 38 15⟩
  case round =>
    obtain ⟨k, A', c', rfl, rfl, hk, hkx, HG, HO⟩ := hrel
    by_cases hlt : k < n
    · obtain ⟨b, off, v, rfl, hb, hx, hr⟩ := (HR.out.grown HG.out (Nat.le_refl _) (by simp)).at_ Rv.cl_len hlt
      obtain ⟨g, hA, hlo, hg, _, hcells⟩ := (HF.out v (List.mem_of_getElem? hx)).kept HG.out
      obtain ⟨p, hp⟩ : ∃ p, ps[k]? = some p := ⟨ps[k]'(by rw [HPL.out]; exact hlt), List.getElem?_eq_getElem _⟩
      have hvp : v.row = p.row := by
        have h1 : (ps.map Pl.row)[k]? = some v.row := by rw [← HV.out, List.getElem?_map, hx]; rfl
        rw [List.getElem?_map, hp] at h1
        injection h1 with h1
        exact h1.symm
      obtain ⟨vi, vA, vc, vf⟩ := v
      have hi : vi = p.id := congrArg Rw.id hvp
      have hf : vf = p.fields := congrArg Rw.fields hvp
      simp only at hA
      subst hA
      subst hi hf
      have HX := Lib.hid hp
      obtain ⟨c0, c1⟩ := row_cells hr
      have hcap : 14 ≤ vc := HCP.out _ (List.mem_of_getElem? hx)
      have HC := Lib.hid (fun (W : World) (hW : wr.grownBy W none) => toPl_calls g vc p W (ints_kept hcells hW hg) hcap (Nat.lt_of_lt_of_le hg hW.size))
      clear hr hb hx hp hlo hg hcells hvp
      have hbk : (k : Int) < (n : Int) := by omega
      go_wp2_with fail
      refine (HC.out _ (World.grownBy_alloc _ _ none)).mono ?_
      rintro _ w2 ⟨rfl, hg2⟩
      have HG2 := Lib.hid ((World.grownBy_alloc wr _ none).trans hg2)
      clear hg2
      go_wp2_with (at_builtin; refine wpList_append_rg rfl (.tmp 13) (.tmp 17) 22 rfl w.heap.size 38 (Pl.val default) 15 120 Pl.cl_len Tryz.underlying22 Tryz.info38 rfl (by decide) (.slice A' k c') k (ps.take k) rfl (own_kept HO.out (HG2.out.trans (World.grownBy_alloc _ _ none))) _ _ 1 1 [p] rfl (rg_litP _ _ _ rfl) (Pl.one _) (k + 1) rfl (by simp only [maxLen]; omega) (by omega) (((HG.out.trans HG2.out).trans (World.grownBy_alloc _ _ none)).size) ?_; intro A2 c2 w4 hown hgrow hat; have H1 := Lib.hid hown; have H2 := Lib.hid hgrow; clear hown hgrow hat)
      have HW : Hid (w.grownBy w4 none) := Lib.hid (grown_own ((HG.out.trans HG2.out).trans (World.grownBy_alloc _ _ none)) H2.out (fun j hj => (HO.out.lt j hj).1))
      have HE : Hid (ps.take (k + 1) = ps.take k ++ [p]) := Lib.hid (by rw [List.take_add_one, HX.out]; simp)
      go_roundg (n - (k + 1))
      case measure => omega
      case rel =>
        refine ⟨k + 1, A2, c2, rfl, by go_num, by omega, by omega, HW, ?_⟩
        rw [HE.out]
        exact H1
    · obtain rfl : k = n := by omega
      go_wp2
      go_ret
      refine ⟨_, _, rfl, HG.out, ?_⟩
      have := HO.out
      rwa [List.take_of_length_le (by rw [HPL.out]; exact Nat.le_refl _)] at this

set_option maxHeartbeats 8000000 in
set_option maxRecDepth 1000000 in
/-- Each becomes one. -/
theorem eachShOf_calls (n c lo : Nat) (A : Option Addr) (ps : List Sh) (hn : n ≤ 1000000) (w : World) (h : RowsC w lo A n (ps.map Sh.row)) :
    Calls Tryz.prog 51 #[.slice A n c, .func (.func 52) #[] #[]] w fun e w' => ∃ A' c', e = .returned (.slice A' n c') ∧ w.grownBy w' none ∧ w'.ownsRow w.heap.size 40 11 (.slice A' n c') n (ps.flatMap Sh.cl) := by
  obtain ⟨vs, hvs, hr, hF, hC⟩ := h
  have HR := Lib.hid hr
  have HF := Lib.hid hF
  have HCP := Lib.hid hC
  have HV := Lib.hid hvs
  have hpl : ps.length = n := by rw [← hr.1, ← List.length_map (f := Rv.row), hvs, List.length_map]
  have HPL := Lib.hid hpl
  clear hr hF hvs hpl hC
  go_enter Tryz.func51, Tryz.ntmps51
  go_wp2_with fail
  go_loopg [4, 9] n (fun kx s4 s9 wr => ∃ (k : Nat) (A' : Option Addr) (c' : Nat), s4 = .slice A' k c' ∧ s9 = .int .i64 k ∧ k ≤ n ∧ n - k ≤ kx ∧ Hid (w.grownBy wr none) ∧ Hid (wr.ownsRow w.heap.size 40 11 (.slice A' k c') k ((ps.take k).flatMap Sh.cl)))
  case atStart => exact ⟨0, none, 0, rfl, rfl, by omega, by omega, World.grownBy.refl w none, World.ownsRow_nil w _ 40 11⟩
  case round =>
    obtain ⟨k, A', c', rfl, rfl, hk, hkx, HG, HO⟩ := hrel
    by_cases hlt : k < n
    · obtain ⟨b, off, v, rfl, hb, hx, hr⟩ := (HR.out.grown HG.out (Nat.le_refl _) (by simp)).at_ Rv.cl_len hlt
      obtain ⟨g, hA, hlo, hg, _, hcells⟩ := (HF.out v (List.mem_of_getElem? hx)).kept HG.out
      obtain ⟨p, hp⟩ : ∃ p, ps[k]? = some p := ⟨ps[k]'(by rw [HPL.out]; exact hlt), List.getElem?_eq_getElem _⟩
      have hvp : v.row = p.row := by
        have h1 : (ps.map Sh.row)[k]? = some v.row := by rw [← HV.out, List.getElem?_map, hx]; rfl
        rw [List.getElem?_map, hp] at h1
        injection h1 with h1
        exact h1.symm
      obtain ⟨vi, vA, vc, vf⟩ := v
      have hi : vi = p.id := congrArg Rw.id hvp
      have hf : vf = p.fields := congrArg Rw.fields hvp
      simp only at hA
      subst hA
      subst hi hf
      have HX := Lib.hid hp
      obtain ⟨c0, c1⟩ := row_cells hr
      have hcap : 10 ≤ vc := HCP.out _ (List.mem_of_getElem? hx)
      have HC := Lib.hid (fun (W : World) (hW : wr.grownBy W none) => toSh_calls g vc p W (ints_kept hcells hW hg) hcap (Nat.lt_of_lt_of_le hg hW.size))
      clear hr hb hx hp hlo hg hcells hvp
      have hbk : (k : Int) < (n : Int) := by omega
      go_wp2_with fail
      refine (HC.out _ (World.grownBy_alloc _ _ none)).mono ?_
      rintro _ w2 ⟨rfl, hg2⟩
      have HG2 := Lib.hid ((World.grownBy_alloc wr _ none).trans hg2)
      clear hg2
      go_wp2_with (at_builtin; refine wpList_append_rg rfl (.tmp 13) (.tmp 17) 23 rfl w.heap.size 40 (Sh.val default) 11 88 Sh.cl_len Tryz.underlying23 Tryz.info40 rfl (by decide) (.slice A' k c') k (ps.take k) rfl (own_kept HO.out (HG2.out.trans (World.grownBy_alloc _ _ none))) _ _ 1 1 [p] rfl (rg_litP _ _ _ rfl) (Sh.one _) (k + 1) rfl (by simp only [maxLen]; omega) (by omega) (((HG.out.trans HG2.out).trans (World.grownBy_alloc _ _ none)).size) ?_; intro A2 c2 w4 hown hgrow hat; have H1 := Lib.hid hown; have H2 := Lib.hid hgrow; clear hown hgrow hat)
      have HW : Hid (w.grownBy w4 none) := Lib.hid (grown_own ((HG.out.trans HG2.out).trans (World.grownBy_alloc _ _ none)) H2.out (fun j hj => (HO.out.lt j hj).1))
      have HE : Hid (ps.take (k + 1) = ps.take k ++ [p]) := Lib.hid (by rw [List.take_add_one, HX.out]; simp)
      go_roundg (n - (k + 1))
      case measure => omega
      case rel =>
        refine ⟨k + 1, A2, c2, rfl, by go_num, by omega, by omega, HW, ?_⟩
        rw [HE.out]
        exact H1
    · obtain rfl : k = n := by omega
      go_wp2
      go_ret
      refine ⟨_, _, rfl, HG.out, ?_⟩
      have := HO.out
      rwa [List.take_of_length_le (by rw [HPL.out]; exact Nat.le_refl _)] at this
end Go.Proofs.YtbilegkffooioaaGreatDoor
/-
  **view.Apply**, from nothing.
-/
namespace Go.Proofs.YtbilegkffooioaaGreatDoor
open Go.RowKit

theorem flag6 {ps : List Pl} : ∀ q ∈ ps.map Pl.row, ∀ x, q.fields[6]? = some x → x = 0 ∨ x = 1 := fun q hq x hx => by
  obtain ⟨p, _, rfl⟩ := List.mem_map.1 hq
  have h : flagZ p.ground = x := by injection hx
  rw [← h]
  cases p.ground
  · exact .inl rfl
  · exact .inr rfl
theorem flag9 {ss : List Sh} : ∀ q ∈ ss.map Sh.row, ∀ x, q.fields[9]? = some x → x = 0 ∨ x = 1 := fun q hq x hx => by
  obtain ⟨p, _, rfl⟩ := List.mem_map.1 hq
  have h : flagZ p.rest = x := by injection hx
  rw [← h]
  cases p.rest
  · exact .inl rfl
  · exact .inr rfl
/-- While a state is read. -/
structure ApSt (w W : World) (gr gb : Nat) (l : List Nat) (a : Nat) : Prop where
  gl : Gl W
  b2 : Blk W w.heap.size 26 #[.slice none 0 0, .slice none 0 0]
  b4 : Blk W (w.heap.size + 1) 26 #[.slice none 0 0, .slice none 0 0]
  st : Rst W gr gb l a
  g : w.grownBy W none
  lo : w.heap.size + 1 < gb
  two : 2 ≤ w.heap.size
section
variable {w W W' : World} {gr gb a a' : Nat} {l : List Nat}
theorem ApSt.grown (h : ApSt w W gr gb l a) (hg : W.grownBy W' none) : ApSt w W' gr gb l a := ⟨h.gl.grown hg, h.b2.grown hg (by simp), h.b4.grown hg (by simp), h.st.grown hg, h.g.trans hg, h.lo, h.two⟩
theorem ApSt.next (h : ApSt w W gr gb l a) (hg : W.grownBy W' (some gb)) (hs : Rst W' gr gb l a') : ApSt w W' gr gb l a' := by
  have hlo := h.lo
  have htw := h.two
  have hk : ∀ k, k ≤ w.heap.size + 1 → W'.heap[k]? = W.heap[k]? := fun k hk => hg.block k (Nat.lt_of_le_of_lt hk h.b4.lt) (by intro e; injection e with e; omega)
  exact ⟨⟨(hk 0 (by omega)).trans h.gl.players, (hk 1 (by omega)).trans h.gl.shots⟩, (hk _ (by omega)).trans h.b2, (hk _ (by omega)).trans h.b4, hs, grown_over h.g hg (by omega), h.lo, h.two⟩
theorem ApSt.cells (h : ApSt w W gr gb l a) : W.cell? ⟨0, 0, none⟩ = some (.int .i64 14) ∧ W.cell? ⟨0, 1, none⟩ = some (.int .i64 6) ∧ W.cell? ⟨0, 2, none⟩ = some (.int .i64 8) ∧
    W.cell? ⟨1, 0, none⟩ = some (.int .i64 10) ∧ W.cell? ⟨1, 1, none⟩ = some (.int .i64 9) ∧ W.cell? ⟨1, 2, none⟩ = some (.int .i64 64) ∧
    W.cell? ⟨w.heap.size, 0, none⟩ = some (.slice none 0 0) ∧ W.cell? ⟨w.heap.size, 1, none⟩ = some (.slice none 0 0) :=
  ⟨cell_of_row _ _ 0 _ _ _ h.gl.players, cell_of_row _ _ 1 _ _ _ h.gl.players, cell_of_row _ _ 2 _ _ _ h.gl.players, cell_of_row _ _ 0 _ _ _ h.gl.shots, cell_of_row _ _ 1 _ _ _ h.gl.shots, cell_of_row _ _ 2 _ _ _ h.gl.shots, h.b2.cell 0, h.b2.cell 1⟩
end

/-- What a region leaves, where it does not panic. -/
def LeavesT {τ : Type} (F : τ → Act) (I : τ → World → Prop) : Exit → Act → World → Prop
  | .normal, a, w => ∃ x, a = F x ∧ I x w
  | _, _, _ => False
theorem LeavesT.mk {τ : Type} {F : τ → Act} {I : τ → World → Prop} {a : Act} {w : World} (x : τ) (ha : a = F x) (hi : I x w) : LeavesT F I .normal a w := ⟨x, ha, hi⟩
/-- A region by what it leaves. -/
theorem region_leavesT {τ : Type} {P : Program} {id : Nat} {ops : Array Oper} {m : Bool} {Q : Exit → Act → World → Prop} {a : Act} {w : World} (l : τ → List (Nat × Value)) (I : τ → World → Prop)
    (h : (Code.region id ops m).wp P (LeavesT (fun x => putsR a (l x)) I) a w) (hq : ∀ x w', I x w' → Q .normal (putsR a (l x)) w') : (Code.region id ops m).wp P Q a w :=
  Code.wp_mono (fun e a' w' h => by
    cases e with
    | normal => obtain ⟨x, ha, hi⟩ := h; subst ha; exact hq x w' hi
    | _ => exact h.elim) h
theorem RowsC.grown {w w' : World} {lo n : Nat} {A : Option Addr} {rs : List Rw} (h : RowsC w lo A n rs) (hg : w.grownBy w' none) : RowsC w' lo A n rs := by
  obtain ⟨vs, h1, h2, h3, h4⟩ := h
  exact ⟨vs, h1, (h2.grown hg (Nat.le_refl _) (by simp)).more hg.size, fun v hv => (h3 v hv).kept hg, h4⟩
theorem own_gb {W W' : World} {base n sz gb : Nat} {e : TypeId} {v : Value} {xs : List Value} (h : W.ownsRow base e sz v n xs) (hg : W.grownBy W' (some gb)) (hb : gb < base) : W'.ownsRow base e sz v n xs :=
  h.kept hg (by
    by_cases hn : v.ownBlock = none
    · exact .inl hn
    · exact .inr fun e => by have := (h.lt _ e).1; omega)
theorem ne_facts {b gb n : Nat} (h : gb < b) (hl : n + 1 < gb) : ¬ (b = 0) ∧ ¬ (b = 1) ∧ ¬ (b = n) := ⟨by omega, by omega, by omega⟩
theorem z_new {w w' : World} {u v : Value} {t : TypeId} {row : Option Nat} (hg : (w.alloc (.cells #[u, v] t)).grownBy w' row) (hr : some w.heap.size ≠ row) : Blk w' w.heap.size t #[u, v] := (Blk.new w t #[u, v]).grown hg hr
theorem z_newd {w w' : World} {u v : Value} {t : TypeId} {row : Option Nat} (hg : (w.alloc (.cells #[u, v] t)).drew.grownBy w' row) (hr : some w.heap.size ≠ row) : Blk w' w.heap.size t #[u, v] := (Blk.new w t #[u, v]).grown (drew_grown hg) hr
theorem ApSt.other {w W W' : World} {gr gb a b : Nat} {l : List Nat} (h : ApSt w W gr gb l a) (hg : W.grownBy W' (some b)) (hb : gr < b) : ApSt w W' gr gb l a := by
  have hlo := h.lo
  have htw := h.two
  have hlt := h.st.lt
  have hsz := h.st.blk.lt
  have hk : ∀ k, k ≤ gr → W'.heap[k]? = W.heap[k]? := fun k hk => hg.block k (by omega) (by intro e; injection e with e; omega)
  exact ⟨⟨(hk 0 (by omega)).trans h.gl.players, (hk 1 (by omega)).trans h.gl.shots⟩, (hk _ (by omega)).trans h.b2, (hk _ (by omega)).trans h.b4, h.st.keep (fun k hk' => hk k (by omega)) (hk gr (Nat.le_refl _)), grown_over h.g hg (by omega), h.lo, h.two⟩
theorem set2_by (W : World) (b : Nat) (x y : Value) : W.grownBy ((W.setCell ⟨b, 0, none⟩ x).setCell ⟨b, 1, none⟩ y) (some b) := only_put (only_put (World.grownBy.refl W (some b)) 0 x) 1 y
theorem own_set2 {W : World} {b base n sz : Nat} {t e : TypeId} {cs : Array Value} {v : Value} {xs : List Value} (h : W.ownsRow base e sz v n xs) (hb : Blk W b t cs) (hne : e ≠ t) (x y : Value) : ((W.setCell ⟨b, 0, none⟩ x).setCell ⟨b, 1, none⟩ y).ownsRow base e sz v n xs := by
  refine h.kept (set2_by W b x y) ?_
  by_cases hn : v.ownBlock = none
  · exact .inl hn
  · refine .inr fun e' => ?_
    rcases h.2 with ⟨hv, _⟩ | ⟨g', cap', cur, hv, _, hh, _⟩
    · rw [hv] at hn; exact hn rfl
    · rw [hv] at e'
      have e2 : some g' = some b := e'
      injection e2 with e2
      rw [e2] at hh
      have := hh.symm.trans hb
      injection this with this
      injection this with _ h2 _
      exact hne h2
/-- Behind the rows that became things. -/
structure ApT where
  b : Nat
  A4 : Option Addr
  c4 : Nat
  A5 : Option Addr
  c5 : Nat
  A7 : Option Addr
  c7 : Nat
  A8 : Option Addr
  c8 : Nat
structure ApEnd (w W : World) (gr gb : Nat) (l : List Nat) (a : Nat) (ps : List Pl) (ss : List Sh) (b : Nat) (A5 : Option Addr) (c5 : Nat) (A8 : Option Addr) (c8 : Nat) : Prop where
  ap : ApSt w W gr gb l a
  bk : Blk W b 26 #[.slice A5 ps.length c5, .slice A8 ss.length c8]
  o5 : ∃ lo, W.ownsRow lo 38 15 (.slice A5 ps.length c5) ps.length (ps.flatMap Pl.cl)
  o8 : ∃ lo, W.ownsRow lo 40 11 (.slice A8 ss.length c8) ss.length (ss.flatMap Sh.cl)
section
variable {w W W' : World} {gr gb a b c5 c8 lo lo' : Nat} {l : List Nat} {ps : List Pl} {ss : List Sh} {A5 A8 : Option Addr}
theorem ApEnd.grown (h : ApEnd w W gr gb l a ps ss b A5 c5 A8 c8) (hg : W.grownBy W' none) : ApEnd w W' gr gb l a ps ss b A5 c5 A8 c8 :=
  ⟨h.ap.grown hg, h.bk.grown hg (by simp), h.o5.elim fun lo h => ⟨lo, own_kept h hg⟩, h.o8.elim fun lo h => ⟨lo, own_kept h hg⟩⟩
theorem apEnd_a (h : ApSt w W gr gb l a) (h5 : W.ownsRow lo 38 15 (.slice A5 ps.length c5) ps.length (ps.flatMap Pl.cl)) (h8 : W.ownsRow lo' 40 11 (.slice A8 ss.length c8) ss.length (ss.flatMap Sh.cl)) :
    ApEnd w (W.alloc (.cells #[.slice A5 ps.length c5, .slice A8 ss.length c8] 26)) gr gb l a ps ss W.heap.size A5 c5 A8 c8 :=
  ⟨h.grown (World.grownBy_alloc _ _ none), Blk.new _ _ _, ⟨lo, own_kept h5 (World.grownBy_alloc _ _ none)⟩, ⟨lo', own_kept h8 (World.grownBy_alloc _ _ none)⟩⟩
theorem apEnd_b (h : ApSt w W gr gb l a) (h5 : W.ownsRow lo 38 15 (.slice A5 ps.length c5) ps.length (ps.flatMap Pl.cl)) (h8 : W.ownsRow lo' 40 11 (.slice A8 ss.length c8) ss.length (ss.flatMap Sh.cl)) {x y : Value} (hb : Blk W b 26 #[x, y]) (hlt : gr < b) :
    ApEnd w ((W.setCell ⟨b, 0, none⟩ (.slice A5 ps.length c5)).setCell ⟨b, 1, none⟩ (.slice A8 ss.length c8)) gr gb l a ps ss b A5 c5 A8 c8 :=
  ⟨h.other (set2_by _ _ _ _) hlt, ((hb.put 0 _).put 1 _).of_ rfl, ⟨lo, own_set2 h5 hb (by decide) _ _⟩, ⟨lo', own_set2 h8 hb (by decide) _ _⟩⟩
end
set_option maxHeartbeats 16000000 in
set_option maxRecDepth 1000000 in
/-- **Apply**, from nothing. -/
theorem apply_calls (B n c : Nat) (A : Option Addr) (ps : List Pl) (ss : List Sh) (w : World) (hgl : Gl w) (hr : rightS ps ss = true) (hn : ((stBits ps ss).length + 7) / 8 = n) (hb : Rd w B A n ((pk (stBits ps ss) n).map bv)) (hB : B ≤ w.heap.size) :
    Calls Tryz.prog 9 #[.agg #[.slice none 0 0, .slice none 0 0], .slice A n c] w fun e w' => ∃ A1 c1 A2 c2, e = .returned (.tuple #[.agg #[.slice A1 ps.length c1, .slice A2 ss.length c2], .int .i64 0]) ∧ w.grownBy w' none ∧ Rg 15 Pl.cl w' w'.heap.size A1 ps.length ps ∧ Rg 11 Sh.cl w' w'.heap.size A2 ss.length ss := by
  have h2w := hgl.two
  obtain ⟨hr1, hr2⟩ := (Bool.and_eq_true _ _).mp (show (rightB 8 (ps.map Pl.row) && rightB 64 (ss.map Sh.row)) = true from hr)
  have hp8 := (right_facts hr1).2.2
  have hs64 := (right_facts hr2).2.2
  rw [List.length_map] at hp8 hs64
  have HR1 := Lib.hid hr1
  have HR2 := Lib.hid hr2
  have HL1 : Hid ((rowsBits 6 (ps.map Pl.row)).length ≤ 4000) := Lib.hid (by
    have := rowsBits_le 6 14 8 (ps.map Pl.row) (fun r hr => by rw [rows14 r hr]; omega) (by rw [List.length_map]; omega)
    omega)
  have HL2 : Hid ((rowsBits 9 (ss.map Sh.row)).length ≤ 30000) := Lib.hid (by
    have := rowsBits_le 9 10 64 (ss.map Sh.row) (fun r hr => by rw [rows10 r hr]; omega) (by rw [List.length_map]; omega)
    omega)
  have HGL := Lib.hid hgl
  have HBB := Lib.hid hb
  have HNN := Lib.hid hn
  have HR0 : Hid (∀ W, Gl W → Calls Tryz.prog 6 #[.agg #[.slice none 0 0, .slice none 0 0]] W fun e w' => e = .returned (.bool true) ∧ W.grownBy w' none) := Lib.hid fun W hW => by
    have := rightS_calls 0 none none 0 0 0 0 [] [] (by decide) (by decide) W hW (Rg.nil_ _ _ _) (Rg.nil_ _ _ _) (Nat.zero_le _)
    rw [right_nil] at this
    exact this
  have HV0 : Hid (Gl ((w.alloc (.cells #[.slice none 0 0, .slice none 0 0] 26)).alloc (.cells #[.slice none 0 0, .slice none 0 0] 26))) := Lib.hid (hgl.grown ((World.grownBy_alloc _ _ none).trans (World.grownBy_alloc _ _ none)))
  have HD0 := Lib.hid (dSt_start (sp := .slice none 0 0) (ss := .slice none 0 0) hgl)
  have hn1 : n ≤ 100000 := by
    have h1 := HL1.out
    have h2 := HL2.out
    have : (stBits ps ss).length = (rowsBits 6 (ps.map Pl.row)).length + (rowsBits 9 (ss.map Sh.row)).length := List.length_append
    omega
  have HX : Hid (∀ x ∈ pk (stBits ps ss) n, x < 256) := Lib.hid (fun x hx => by
    unfold pk at hx
    obtain ⟨i, _, rfl⟩ := List.mem_map.1 hx
    exact by8_lt _ _)
  clear hgl hr hr1 hr2 hn hb
  go_enter Tryz.func9, Tryz.ntmps9
  go_wp2_with fail
  refine (HR0.out _ HD0.out.gl).mono ?_
  rintro e w1 ⟨rfl, hg⟩
  have HD1 := Lib.hid (HD0.out.grown hg)
  clear hg
  go_wp2_with fail
  refine (newReader_calls B n c A (pk (stBits ps ss) n) hn1 HX.out w1 (HBB.out.keep fun p hp => World.cell?_of_block (HD1.out.gr.block p.block (by omega) (by simp))) (Nat.le_trans hB HD1.out.gr.size)).mono ?_
  rintro e w2 ⟨gb, rfl, hrr, hgb, hg⟩
  have HAP : Hid (ApSt w (w2.alloc (.cells #[.pointer (some ⟨gb, 0, none⟩), .int .i64 0] 115)) w2.heap.size gb (pk (stBits ps ss) n) 0) := Lib.hid (by
    have hD := HD1.out.grown (hg.trans (World.grownBy_alloc w2 (.cells #[.pointer (some ⟨gb, 0, none⟩), .int .i64 0] 115) none))
    exact ⟨hD.gl, hD.b2, hD.b3, ⟨Blk.new w2 115 _, hrr.grown (World.grownBy_alloc _ _ none), hrr.lt⟩, hD.gr, by have := HD1.out.b3.lt; omega, h2w⟩)
  clear hrr hgb hg
  have c0 := HAP.out.cells
  go_wp2_with fail
  obtain ⟨W0, hW0⟩ : ∃ W0, w2.alloc (.cells #[.pointer (some ⟨gb, 0, none⟩), .int .i64 0] 115) = W0 := ⟨_, rfl⟩
  obtain ⟨gr, hgr⟩ : ∃ gr, w2.heap.size = gr := ⟨_, rfl⟩
  rw [hW0] at HAP c0 ⊢
  rw [hgr] at HAP ⊢
  clear hW0 hgr
  obtain ⟨L, hL⟩ : ∃ L, stBits ps ss = L := ⟨_, rfl⟩
  rw [hL] at HAP HNN
  have hLE : L = rowsBits 6 (ps.map Pl.row) ++ rowsBits 9 (ss.map Sh.row) := by rw [← hL]; rfl
  have h8 : L.length ≤ 8 * n := by have := HNN.out; omega
  have HREAD1 : Hid (∀ X, Rst X gr gb (pk L n) 0 → Calls Tryz.prog 49 #[.agg #[.int .i64 14, .int .i64 6, .int .i64 8], .pointer (some ⟨gr, 0, none⟩), .slice none 0 0] X fun e w' => ∃ A' c', e = .returned (.slice A' ps.length c') ∧ RowsC w' X.heap.size A' ps.length (ps.map Pl.row) ∧ Rst w' gr gb (pk L n) (rowsBits 6 (ps.map Pl.row)).length ∧ X.grownBy w' (some gb)) := Lib.hid fun X hX => by
    have := read_calls 14 6 8 (findNone14 6 8) gr gb n L [] (rowsBits 9 (ss.map Sh.row)) (ps.map Pl.row) X hX (by rw [hLE]; rfl) h8 HR1.out rows14 (by decide) flag6 (by rw [List.length_map]; omega)
    rw [List.length_map] at this
    simpa using this
  have HREAD2 : Hid (∀ X, Rst X gr gb (pk L n) (rowsBits 6 (ps.map Pl.row)).length → Calls Tryz.prog 49 #[.agg #[.int .i64 10, .int .i64 9, .int .i64 64], .pointer (some ⟨gr, 0, none⟩), .slice none 0 0] X fun e w' => ∃ A' c', e = .returned (.slice A' ss.length c') ∧ RowsC w' X.heap.size A' ss.length (ss.map Sh.row) ∧ Rst w' gr gb (pk L n) L.length ∧ X.grownBy w' (some gb)) := Lib.hid fun X hX => by
    have := read_calls 10 9 64 (findNone10 9 64) gr gb n L (rowsBits 6 (ps.map Pl.row)) [] (ss.map Sh.row) X hX (by rw [hLE, List.append_nil]) h8 HR2.out rows10 (by decide) flag9 (by rw [List.length_map]; omega)
    rw [List.length_map] at this
    rw [show L.length = (rowsBits 6 (ps.map Pl.row)).length + (rowsBits 9 (ss.map Sh.row)).length by rw [hLE, List.length_append]]
    exact this
  have HP8 : Hid (ps.length ≤ 1000000) := Lib.hid (by omega)
  have HS64 : Hid (ss.length ≤ 1000000) := Lib.hid (by omega)
  have W0L : gr < W0.heap.size := HAP.out.st.blk.lt
  clear hL hLE h8 hp8 hs64 HX HBB HD0 HD1 HV0 HR0
  refine region_leavesT (τ := ApT) (fun t => [(7, .pointer (some ⟨t.b, 0, none⟩)), (16, .agg #[.int .i64 14, .int .i64 6, .int .i64 8]), (17, .pointer (some ⟨gr, 0, none⟩)), (18, .pointer (some ⟨w.heap.size, 0, none⟩)), (19, .slice none 0 0), (20, .slice none 0 0), (21, .slice t.A4 ps.length t.c4), (22, .slice t.A5 ps.length t.c5), (23, .agg #[.int .i64 10, .int .i64 9, .int .i64 64]), (24, .pointer (some ⟨gr, 0, none⟩)), (25, .pointer (some ⟨w.heap.size, 1, none⟩)), (26, .slice none 0 0), (27, .slice none 0 0), (28, .slice t.A7 ss.length t.c7), (29, .slice t.A8 ss.length t.c8), (30, .agg #[.slice t.A5 ps.length t.c5, .slice t.A8 ss.length t.c8])])
    (fun t W => ApEnd w W gr gb (pk L n) L.length ps ss t.b t.A5 t.c5 t.A8 t.c8) ?_ ?_
  · go_region_held3 (fun W => W.cell? ⟨0, 0, none⟩ = some (.int .i64 14) ∧ W.cell? ⟨0, 1, none⟩ = some (.int .i64 6) ∧ W.cell? ⟨0, 2, none⟩ = some (.int .i64 8) ∧
      W.cell? ⟨1, 0, none⟩ = some (.int .i64 10) ∧ W.cell? ⟨1, 1, none⟩ = some (.int .i64 9) ∧ W.cell? ⟨1, 2, none⟩ = some (.int .i64 64) ∧
      W.cell? ⟨w.heap.size, 0, none⟩ = some (.slice none 0 0) ∧ W.cell? ⟨w.heap.size, 1, none⟩ = some (.slice none 0 0)) (go_keep)
      (first
        | (go_at_call 51; have hx := HA7.out; have hrow := HC7.out; refine (eachShOf_calls ss.length c7 _ A7 ss HS64.out _ (hrow.grown (by with_reducible first | exact World.grownBy.refl _ none | exact World.grownBy_alloc _ _ none | exact grown_drew (World.grownBy.refl _ none) | exact grown_drew (World.grownBy_alloc _ _ none)))).mono ?_; rintro e w8 ⟨A8, c8, rfl, hg, ho⟩; have HA8 := Lib.hid ((hx.grown (by with_reducible first | exact World.grownBy.refl _ none | exact World.grownBy_alloc _ _ none | exact grown_drew (World.grownBy.refl _ none) | exact grown_drew (World.grownBy_alloc _ _ none))).grown hg); have HO8 := Lib.hid (own_kept (own_kept HO7.out (by with_reducible first | exact World.grownBy.refl _ none | exact World.grownBy_alloc _ _ none | exact grown_drew (World.grownBy.refl _ none) | exact grown_drew (World.grownBy_alloc _ _ none))) hg); have HQ8 := Lib.hid ho; have w7L : gr < w7.heap.size := hx.st.blk.lt; (first | (have hz := HZ.out.1.grown hg (by simp); have hzl := HZ.out.2; have HZ := Lib.hid (And.intro hz hzl); clear hz hzl) | (have hz := z_new hg (by simp); have hzl : gr < w7.heap.size := w7L; have HZ := Lib.hid (And.intro hz hzl); clear hz hzl) | (have hz := z_newd hg (by simp); have hzl : gr < w7.heap.size := w7L; have HZ := Lib.hid (And.intro hz hzl); clear hz hzl) | skip); (try (have z0 := HZ.out.1.cell 0; have z1 := HZ.out.1.cell 1; have y0 := HZ.out.1.free 0; have y1 := HZ.out.1.free 1; have hzn := ne_facts (Nat.lt_trans HA8.out.st.lt HZ.out.2) HA8.out.lo)); clear hx hrow hg ho; have hk8 := HA8.out.cells)
        | (go_at_call 49; have hx := HA6.out; refine (HREAD2.out _ ((hx.grown (by with_reducible first | exact World.grownBy.refl _ none | exact World.grownBy_alloc _ _ none | exact grown_drew (World.grownBy.refl _ none) | exact grown_drew (World.grownBy_alloc _ _ none))).st)).mono ?_; rintro e w7 ⟨A7, c7, rfl, hrow, hst, hg⟩; have HA7 := Lib.hid ((hx.grown (by with_reducible first | exact World.grownBy.refl _ none | exact World.grownBy_alloc _ _ none | exact grown_drew (World.grownBy.refl _ none) | exact grown_drew (World.grownBy_alloc _ _ none))).next hg hst); have HC7 := Lib.hid hrow; have HO7 := Lib.hid (own_gb (own_kept HO6.out (by with_reducible first | exact World.grownBy.refl _ none | exact World.grownBy_alloc _ _ none | exact grown_drew (World.grownBy.refl _ none) | exact grown_drew (World.grownBy_alloc _ _ none))) hg (Nat.lt_of_lt_of_le HB5.out (World.grownBy.size (row := none) (by with_reducible first | exact World.grownBy.refl _ none | exact World.grownBy_alloc _ _ none | exact grown_drew (World.grownBy.refl _ none) | exact grown_drew (World.grownBy_alloc _ _ none))))); have w6L : gr < w6.heap.size := hx.st.blk.lt; (first | (have hz := HZ.out.1.grown hg (by have := HZ.out.2; have := hst.lt; intro e; injection e with e; omega); have hzl := HZ.out.2; have HZ := Lib.hid (And.intro hz hzl); clear hz hzl) | (have hz := z_new hg (by have := hst.lt; have := hx.st.blk.lt; intro e; injection e with e; omega); have hzl : gr < w6.heap.size := w6L; have HZ := Lib.hid (And.intro hz hzl); clear hz hzl) | (have hz := z_newd hg (by have := hst.lt; have := hx.st.blk.lt; intro e; injection e with e; omega); have hzl : gr < w6.heap.size := w6L; have HZ := Lib.hid (And.intro hz hzl); clear hz hzl) | skip); clear hx hrow hst hg; have hk7 := HA7.out.cells)
        | (go_at_call 31; have hx := HA5.out; refine (each0S_calls none 0 _ _).mono ?_; rintro e w6 ⟨rfl, hg⟩; have HA6 := Lib.hid ((hx.grown (by with_reducible first | exact World.grownBy.refl _ none | exact World.grownBy_alloc _ _ none | exact grown_drew (World.grownBy.refl _ none) | exact grown_drew (World.grownBy_alloc _ _ none))).grown hg); have HO6 := Lib.hid (own_kept (own_kept HO5.out (by with_reducible first | exact World.grownBy.refl _ none | exact World.grownBy_alloc _ _ none | exact grown_drew (World.grownBy.refl _ none) | exact grown_drew (World.grownBy_alloc _ _ none))) hg); have w5L : gr < w5.heap.size := hx.st.blk.lt; (first | (have hz := HZ.out.1.grown hg (by simp); have hzl := HZ.out.2; have HZ := Lib.hid (And.intro hz hzl); clear hz hzl) | (have hz := z_new hg (by simp); have hzl : gr < w5.heap.size := w5L; have HZ := Lib.hid (And.intro hz hzl); clear hz hzl) | (have hz := z_newd hg (by simp); have hzl : gr < w5.heap.size := w5L; have HZ := Lib.hid (And.intro hz hzl); clear hz hzl) | skip); clear hx hg; have hk6 := HA6.out.cells)
        | (go_at_call 48; have hx := HA4.out; have hrow := HC4.out; refine (eachPlOf_calls ps.length c4 _ A4 ps HP8.out _ (hrow.grown (by with_reducible first | exact World.grownBy.refl _ none | exact World.grownBy_alloc _ _ none | exact grown_drew (World.grownBy.refl _ none) | exact grown_drew (World.grownBy_alloc _ _ none)))).mono ?_; rintro e w5 ⟨A5, c5, rfl, hg, ho⟩; have HA5 := Lib.hid ((hx.grown (by with_reducible first | exact World.grownBy.refl _ none | exact World.grownBy_alloc _ _ none | exact grown_drew (World.grownBy.refl _ none) | exact grown_drew (World.grownBy_alloc _ _ none))).grown hg); have HB5 : Hid (gb < w4.heap.size) := Lib.hid hx.st.rr.lt; have HO5 := Lib.hid ho; have w4L : gr < w4.heap.size := hx.st.blk.lt; (first | (have hz := HZ.out.1.grown hg (by simp); have hzl := HZ.out.2; have HZ := Lib.hid (And.intro hz hzl); clear hz hzl) | (have hz := z_new hg (by simp); have hzl : gr < w4.heap.size := w4L; have HZ := Lib.hid (And.intro hz hzl); clear hz hzl) | (have hz := z_newd hg (by simp); have hzl : gr < w4.heap.size := w4L; have HZ := Lib.hid (And.intro hz hzl); clear hz hzl) | skip); clear hx hrow hg ho; have hk5 := HA5.out.cells)
        | (go_at_call 49; have hx := HA3.out; refine (HREAD1.out _ ((hx.grown (by with_reducible first | exact World.grownBy.refl _ none | exact World.grownBy_alloc _ _ none | exact grown_drew (World.grownBy.refl _ none) | exact grown_drew (World.grownBy_alloc _ _ none))).st)).mono ?_; rintro e w4 ⟨A4, c4, rfl, hrow, hst, hg⟩; have HA4 := Lib.hid ((hx.grown (by with_reducible first | exact World.grownBy.refl _ none | exact World.grownBy_alloc _ _ none | exact grown_drew (World.grownBy.refl _ none) | exact grown_drew (World.grownBy_alloc _ _ none))).next hg hst); have HC4 := Lib.hid hrow; have w3L : gr < w3.heap.size := hx.st.blk.lt; (first | (have hz := HZ.out.1.grown hg (by have := HZ.out.2; have := hst.lt; intro e; injection e with e; omega); have hzl := HZ.out.2; have HZ := Lib.hid (And.intro hz hzl); clear hz hzl) | (have hz := z_new hg (by have := hst.lt; have := hx.st.blk.lt; intro e; injection e with e; omega); have hzl : gr < w3.heap.size := w3L; have HZ := Lib.hid (And.intro hz hzl); clear hz hzl) | (have hz := z_newd hg (by have := hst.lt; have := hx.st.blk.lt; intro e; injection e with e; omega); have hzl : gr < w3.heap.size := w3L; have HZ := Lib.hid (And.intro hz hzl); clear hz hzl) | skip); clear hx hrow hst hg; have hk4 := HA4.out.cells)
        | (go_at_call 29; have hx := HAP.out; refine (each0P_calls none 0 _ _).mono ?_; rintro e w3 ⟨rfl, hg⟩; have HA3 := Lib.hid ((hx.grown (by with_reducible first | exact World.grownBy.refl _ none | exact World.grownBy_alloc _ _ none | exact grown_drew (World.grownBy.refl _ none) | exact grown_drew (World.grownBy_alloc _ _ none))).grown hg); (first | (have hz := HZ.out.1.grown hg (by simp); have hzl := HZ.out.2; have HZ := Lib.hid (And.intro hz hzl); clear hz hzl) | (have hz := z_new hg (by simp); have hzl : gr < W0.heap.size := W0L; have HZ := Lib.hid (And.intro hz hzl); clear hz hzl) | (have hz := z_newd hg (by simp); have hzl : gr < W0.heap.size := W0L; have HZ := Lib.hid (And.intro hz hzl); clear hz hzl) | skip); clear hx hg; have hk3 := HA3.out.cells))
    all_goals first
      | (refine LeavesT.mk ⟨w8.heap.size, A4, c4, A5, c5, A7, c7, A8, c8⟩ ?_ (apEnd_a HA8.out HO8.out HQ8.out); simp only [putsR, Act.put, List.setIfInBounds_toArray, List.set_cons_zero, List.set_cons_succ])
      | (refine LeavesT.mk ⟨w7.heap.size, A4, c4, A5, c5, A7, c7, A8, c8⟩ ?_ (apEnd_b HA8.out HO8.out HQ8.out HZ.out.1 HZ.out.2); simp only [putsR, Act.put, List.setIfInBounds_toArray, List.set_cons_zero, List.set_cons_succ])
      | (refine LeavesT.mk ⟨w6.heap.size, A4, c4, A5, c5, A7, c7, A8, c8⟩ ?_ (apEnd_b HA8.out HO8.out HQ8.out HZ.out.1 HZ.out.2); simp only [putsR, Act.put, List.setIfInBounds_toArray, List.set_cons_zero, List.set_cons_succ])
      | (refine LeavesT.mk ⟨w5.heap.size, A4, c4, A5, c5, A7, c7, A8, c8⟩ ?_ (apEnd_b HA8.out HO8.out HQ8.out HZ.out.1 HZ.out.2); simp only [putsR, Act.put, List.setIfInBounds_toArray, List.set_cons_zero, List.set_cons_succ])
      | (refine LeavesT.mk ⟨w4.heap.size, A4, c4, A5, c5, A7, c7, A8, c8⟩ ?_ (apEnd_b HA8.out HO8.out HQ8.out HZ.out.1 HZ.out.2); simp only [putsR, Act.put, List.setIfInBounds_toArray, List.set_cons_zero, List.set_cons_succ])
      | (refine LeavesT.mk ⟨w3.heap.size, A4, c4, A5, c5, A7, c7, A8, c8⟩ ?_ (apEnd_b HA8.out HO8.out HQ8.out HZ.out.1 HZ.out.2); simp only [putsR, Act.put, List.setIfInBounds_toArray, List.set_cons_zero, List.set_cons_succ])
      | (refine LeavesT.mk ⟨W0.heap.size, A4, c4, A5, c5, A7, c7, A8, c8⟩ ?_ (apEnd_b HA8.out HO8.out HQ8.out HZ.out.1 HZ.out.2); simp only [putsR, Act.put, List.setIfInBounds_toArray, List.set_cons_zero, List.set_cons_succ])
  rintro ⟨b7, A4, c4, A5, c5, A7, c7, A8, c8⟩ W8 hend
  simp only at hend
  have HE := Lib.hid hend
  have hr0 := hend.ap.st.blk.cell 0
  have hr1 := hend.ap.st.blk.cell 1
  have HRST := Lib.hid (rest_calls gb (pk L n) L.length W8 hend.ap.st.rr)
  simp only [putsR, Act.put, List.setIfInBounds_toArray, List.set_cons_zero, List.set_cons_succ]
  clear hend
  go_wp2_with fail
  refine HRST.out.mono ?_
  rintro e w9 ⟨rfl, q, hq⟩
  have hg9 : W8.grownBy w9 none := by rw [hq]; exact grown_drawn (World.grownBy.refl W8 none) q
  have HE9 := Lib.hid (HE.out.grown hg9)
  rw [rest_all L n HNN.out]
  clear hq hg9 hr0 hr1
  go_wp2_with fail
  refine (fail_calls gr 3 w9).mono ?_
  rintro e w10 ⟨rfl, rfl⟩
  have hr1 := HE9.out.ap.st.blk.cell 1
  have d0 := HE9.out.bk.cell 0
  have d1 := HE9.out.bk.cell 1
  have e0 := HE9.out.ap.b4.cell 0
  have e1 := HE9.out.ap.b4.cell 1
  have f0 := HE9.out.ap.b4.free 0
  have f1 := HE9.out.ap.b4.free 1
  go_wp2
  have hb : Blk _ (w.heap.size + 1) 26 #[.slice A5 ps.length c5, .slice A8 ss.length c8] := ((HE9.out.ap.b4.put 0 (.slice A5 ps.length c5)).put 1 (.slice A8 ss.length c8)).of_ rfl
  refine bodyPost_ret (results_cell_and_tmp (cs := #[.slice A5 ps.length c5, .slice A8 ss.length c8]) rfl _ _ (w.heap.size + 1) 26 (0, 0) _ rfl hb Tryz.underlying26 rfl rfl) rfl ?_
  obtain ⟨lo5, h5⟩ := HE9.out.o5
  obtain ⟨lo8, h8⟩ := HE9.out.o8
  exact ⟨A5, c5, A8, c8, rfl, set_lo (set_lo HE9.out.ap.g (Nat.le_succ _) 0 _) (Nat.le_succ _) 1 _, own_rg Pl.cl_len (by decide) (own_set2 h5 HE9.out.ap.b4 (by decide) _ _), own_rg Sh.cl_len (by decide) (own_set2 h8 HE9.out.ap.b4 (by decide) _ _)⟩
end Go.Proofs.YtbilegkffooioaaGreatDoor
/-
  What a player sees, in plain words: rows of what is seen, sorted and cut, tell sublists; seen again all of it is.
-/
namespace Go.Proofs.YtbilegkffooioaaGreatDoor
/-- A point. -/
abbrev V3 := Int × Int × Int
def Pl.pos (p : Pl) : V3 := (p.px, p.py, p.pz)
def Sh.pos (p : Sh) : V3 := (p.px, p.py, p.pz)

section
variable (F : V3 → V3 → Int) (id : Int) (mi : Nat) (mp : V3)
/-- A player as it is seen. -/
def plSeen (i : Nat) (p : Pl) : List Seen := if i = mi then [⟨-1, 0, 0, i⟩] else if F p.pos mp ≤ 786432 then [⟨F p.pos mp, p.id, 0, i⟩] else []
/-- How far a shot is. -/
def shFar (s : Sh) : Int := if s.owner = id then 0 else F s.pos mp
/-- A shot as it is seen. -/
def shSeen (i : Nat) (s : Sh) : List Seen := if shFar F id mp s ≤ 786432 then [⟨shFar F id mp s, s.id, 1, i⟩] else []
def plsSeen (ps : List Pl) (n : Nat) : List Seen := (List.range n).flatMap fun i => plSeen F mi mp i ps[i]!
def shsSeen (ss : List Sh) (n : Nat) : List Seen := (List.range n).flatMap fun i => shSeen F id mp i ss[i]!
def allSeen (ps : List Pl) (ss : List Sh) : List Seen := plsSeen F mi mp ps ps.length ++ shsSeen F id mp ss ss.length
end

def isPl (x : Seen) : Bool := x.sort == 0
def isSh (x : Seen) : Bool := !(x.sort == 0)
def outPl (ps : List Pl) (l : List Seen) : List Pl := (l.filter isPl).map fun x => ps[x.place.toNat]!
def outSh (ss : List Sh) (l : List Seen) : List Sh := (l.filter isSh).map fun x => ss[x.place.toNat]!

theorem sublist_of_idx {α : Type} [Inhabited α] : ∀ (xs : List α) (idx : List Nat) (k : Nat), idx.Pairwise (· < ·) → (∀ i ∈ idx, k ≤ i ∧ i < k + xs.length) → (idx.map fun i => xs[i - k]!).Sublist xs
  | [], idx, k, _, h => by
    cases idx with
    | nil => exact .slnil
    | cons i r => have := h i (by simp); simp at this; omega
  | x :: xs, [], k, _, _ => List.nil_sublist _
  | x :: xs, i :: r, k, hp, h => by
    rw [List.pairwise_cons] at hp
    have hi := h i (by simp)
    have hr : ∀ j ∈ r, k + 1 ≤ j ∧ j < (k + 1) + xs.length := fun j hj => by
      have h1 := hp.1 j hj
      have h2 := h j (by simp [hj])
      simp only [List.length_cons] at h2
      omega
    have e : ∀ (q : List Nat), (∀ j ∈ q, k + 1 ≤ j ∧ j < (k + 1) + xs.length) → q.map (fun j => (x :: xs)[j - k]!) = q.map (fun j => xs[j - (k + 1)]!) := fun q hq => by
      refine List.map_congr_left fun j hj => ?_
      have := hq j hj
      rw [show j - k = (j - (k + 1)) + 1 by omega]
      simp
    by_cases hk : i = k
    · subst hk
      rw [List.map_cons, Nat.sub_self, e r hr]
      simp only [List.getElem!_cons_zero]
      exact (sublist_of_idx xs r (i + 1) hp.2 hr).cons_cons _
    · have hr2 : ∀ j ∈ i :: r, k + 1 ≤ j ∧ j < (k + 1) + xs.length := fun j hj => by
        rcases List.mem_cons.1 hj with rfl | hj
        · simp only [List.length_cons] at hi
          omega
        · exact hr j hj
      rw [e _ hr2]
      exact (sublist_of_idx xs (i :: r) (k + 1) (List.pairwise_cons.2 hp) hr2).cons _

/-- Row, places of one sort: ascending. -/
theorem range_flat {f : Nat → List Seen} (hf : ∀ i, (∀ x ∈ f i, x.place = (i : Int)) ∧ (f i).length ≤ 1) : ∀ n, ((List.range n).flatMap f).Pairwise (fun a b => a.place < b.place) ∧ ∀ x ∈ (List.range n).flatMap f, 0 ≤ x.place ∧ x.place < n
  | 0 => by simp
  | n + 1 => by
    obtain ⟨h1, h2⟩ := range_flat hf n
    have h3 := hf n
    rw [List.range_succ, List.flatMap_append]
    simp only [List.flatMap_cons, List.flatMap_nil, List.append_nil]
    refine ⟨List.pairwise_append.2 ⟨h1, ?_, fun a ha b hb => ?_⟩, fun x hx => ?_⟩
    · match hq : f n with
      | [] => exact List.Pairwise.nil
      | [x] => exact List.pairwise_singleton _ _
      | x :: y :: r => rw [hq] at h3; have := h3.2; simp at this
    · have := h2 a ha
      rw [h3.1 b hb]
      exact this.2
    · rcases List.mem_append.1 hx with hx | hx
      · have := h2 x hx; omega
      · rw [h3.1 x hx]; omega

section
variable {F : V3 → V3 → Int} {id : Int} {mi : Nat} {mp : V3} {ps : List Pl} {ss : List Sh}
theorem plSeen_one (i : Nat) (p : Pl) : (∀ x ∈ plSeen F mi mp i p, x.place = (i : Int)) ∧ (plSeen F mi mp i p).length ≤ 1 := by
  unfold plSeen
  split
  · simp
  · split <;> simp
theorem shSeen_one (i : Nat) (p : Sh) : (∀ x ∈ shSeen F id mp i p, x.place = (i : Int)) ∧ (shSeen F id mp i p).length ≤ 1 := by
  unfold shSeen
  split <;> simp
theorem plSeen_sort (i : Nat) (p : Pl) (x : Seen) (h : x ∈ plSeen F mi mp i p) : x.sort = 0 := by
  unfold plSeen at h
  split at h
  · simp at h; rw [h]
  · split at h <;> simp at h; rw [h]
theorem shSeen_sort (i : Nat) (p : Sh) (x : Seen) (h : x ∈ shSeen F id mp i p) : x.sort = 1 := by
  unfold shSeen at h
  split at h <;> simp at h; rw [h]
theorem allPl (ps : List Pl) (ss : List Sh) : (allSeen F id mi mp ps ss).filter isPl = plsSeen F mi mp ps ps.length := by
  unfold allSeen
  rw [List.filter_append]
  have h1 : (plsSeen F mi mp ps ps.length).filter isPl = plsSeen F mi mp ps ps.length := List.filter_eq_self.2 fun x hx => by
    obtain ⟨i, _, hi⟩ := List.mem_flatMap.1 hx
    simp [isPl, plSeen_sort i _ x hi]
  have h2 : (shsSeen F id mp ss ss.length).filter isPl = [] := List.filter_eq_nil_iff.2 fun x hx => by
    obtain ⟨i, _, hi⟩ := List.mem_flatMap.1 hx
    simp [isPl, shSeen_sort i _ x hi]
  rw [h1, h2, List.append_nil]
theorem allSh (ps : List Pl) (ss : List Sh) : (allSeen F id mi mp ps ss).filter isSh = shsSeen F id mp ss ss.length := by
  unfold allSeen
  rw [List.filter_append]
  have h1 : (plsSeen F mi mp ps ps.length).filter isSh = [] := List.filter_eq_nil_iff.2 fun x hx => by
    obtain ⟨i, _, hi⟩ := List.mem_flatMap.1 hx
    simp [isSh, plSeen_sort i _ x hi]
  have h2 : (shsSeen F id mp ss ss.length).filter isSh = shsSeen F id mp ss ss.length := List.filter_eq_self.2 fun x hx => by
    obtain ⟨i, _, hi⟩ := List.mem_flatMap.1 hx
    simp [isSh, shSeen_sort i _ x hi]
  rw [h1, h2, List.nil_append]

/-- Rows of what is seen, sorted twice and cut. -/
structure Cut (L : List Seen) (m : Nat) (l3 : List Seen) : Prop where
  ex : ∃ l1 : List Seen, l1.Perm L ∧ l3.Perm (l1.take m) ∧ ∀ x : Seen, x ∈ L.take 20 → (∀ y ∈ L, y = x ∨ x.far < y.far) → l1.head? = some x
  asc : l3.Pairwise fun a b => ¬ b.place < a.place
theorem pairwise_lt_of {l : List Int} (h1 : l.Pairwise fun a b => ¬ b < a) (h2 : l.Nodup) : l.Pairwise (· < ·) := by
  have := h1.and h2
  exact this.imp fun ⟨a, b⟩ => by omega

theorem sub_places {f : Seen → Bool} {L l3 : List Seen} {m : Nat} {N : Nat} (hc : Cut L m l3) (hL : (L.filter f).Pairwise (fun a b => a.place < b.place)) (hN : ∀ x ∈ L.filter f, 0 ≤ x.place ∧ x.place < N) :
    ((l3.filter f).map fun x => x.place.toNat).Pairwise (· < ·) ∧ ∀ i ∈ (l3.filter f).map (fun x => x.place.toNat), 0 ≤ i ∧ i < 0 + N := by
  obtain ⟨l1, h1, h2, _⟩ := hc.ex
  have hsub : ∀ x ∈ l3.filter f, x ∈ L.filter f := fun x hx => (h1.filter f).mem_iff.1 (((List.take_sublist m l1).filter f).subset ((h2.filter f).mem_iff.1 hx))
  have hmem : ∀ x ∈ l3.filter f, 0 ≤ x.place ∧ x.place < N := fun x hx => hN x (hsub x hx)
  have hnd : ((L.filter f).map Seen.place).Nodup := by
    refine List.Pairwise.map _ ?_ hL
    intro a b h e; omega
  have hnd3 : ((l3.filter f).map Seen.place).Nodup := by
    exact ((h2.filter f).map Seen.place).nodup_iff.2 ((((h1.filter f).map Seen.place).nodup_iff.2 hnd).sublist (((List.take_sublist m l1).filter f).map Seen.place))
  have hlt : ((l3.filter f).map Seen.place).Pairwise (· < ·) := pairwise_lt_of (List.Pairwise.map _ (fun _ _ h => h) (hc.asc.sublist List.filter_sublist)) hnd3
  refine ⟨?_, fun i hi => ?_⟩
  · have h5 : (l3.filter f).Pairwise (fun a b => a.place < b.place) := List.pairwise_map.1 hlt
    refine List.pairwise_map.2 (h5.imp_of_mem fun {a b} ha hb hab => ?_)
    have h6 := hmem a ha
    have h7 := hmem b hb
    omega
  · obtain ⟨x, hx, rfl⟩ := List.mem_map.1 hi
    have := hmem x hx
    omega
theorem outPl_sub {m : Nat} {l3 : List Seen} (hc : Cut (allSeen F id mi mp ps ss) m l3) : (outPl ps l3).Sublist ps := by
  have h0 := range_flat (f := fun i => plSeen F mi mp i ps[i]!) (fun i => plSeen_one i _) ps.length
  have := sub_places (f := isPl) (N := ps.length) hc (by rw [allPl]; exact h0.1) (by rw [allPl]; exact h0.2)
  have h2 := sublist_of_idx ps _ 0 this.1 this.2
  rw [List.map_map] at h2
  exact h2
theorem outSh_sub {m : Nat} {l3 : List Seen} (hc : Cut (allSeen F id mi mp ps ss) m l3) : (outSh ss l3).Sublist ss := by
  have h0 := range_flat (f := fun i => shSeen F id mp i ss[i]!) (fun i => shSeen_one i _) ss.length
  have := sub_places (f := isSh) (N := ss.length) hc (by rw [allSh]; exact h0.1) (by rw [allSh]; exact h0.2)
  have h2 := sublist_of_idx ss _ 0 this.1 this.2
  rw [List.map_map] at h2
  exact h2
end

/-- What Sees tells. -/
def SeesPost (F : V3 → V3 → Int) (id : Int) (m : Nat) (ps : List Pl) (ss : List Sh) (os : List Pl) (oh : List Sh) : Prop :=
  match ps.findIdx? (fun p => p.id == id) with
  | none => os = [] ∧ oh = []
  | some mi => ∃ l3, Cut (allSeen F id mi (ps[mi]!).pos ps ss) m l3 ∧ os = outPl ps l3 ∧ oh = outSh ss l3

theorem len_parts : ∀ l : List Seen, (l.filter isPl).length + (l.filter isSh).length = l.length
  | [] => rfl
  | x :: l => by
    have ih := len_parts l
    rw [List.filter_cons, List.filter_cons, List.length_cons]
    by_cases h : (x.sort == 0) = true
    · have h1 : isPl x = true := h
      have h2 : isSh x = false := by unfold isSh; rw [h]; rfl
      rw [h1, h2]; simp; omega
    · have h0 : (x.sort == 0) = false := by simpa using h
      have h1 : isPl x = false := h0
      have h2 : isSh x = true := by unfold isSh; rw [h0]; rfl
      rw [h1, h2]; simp; omega
theorem flat_one {f : Nat → List Seen} : ∀ n, (∀ i, i < n → (f i).length = 1) → ((List.range n).flatMap f).length = n
  | 0, _ => rfl
  | n + 1, h => by
    rw [List.range_succ, List.flatMap_append, List.length_append, flat_one n (fun i hi => h i (by omega))]
    simp [h n (Nat.lt_succ_self n)]
theorem flat_le {f : Nat → List Seen} (h : ∀ i, (f i).length ≤ 1) : ∀ n, ((List.range n).flatMap f).length ≤ n
  | 0 => by simp
  | n + 1 => by
    have := flat_le h n
    have h2 := h n
    rw [List.range_succ, List.flatMap_append, List.length_append, List.flatMap_cons, List.flatMap_nil, List.append_nil]
    omega
theorem same_id {ps : List Pl} (h : ps.Pairwise fun a b => a.id < b.id) {i j : Nat} (hi : i < ps.length) (hj : j < ps.length) (e : ps[i].id = ps[j].id) : i = j := by
  rcases Nat.lt_trichotomy i j with hlt | rfl | hlt
  · have := List.pairwise_iff_getElem.1 h i j hi hj hlt; omega
  · rfl
  · have := List.pairwise_iff_getElem.1 h j i hj hi hlt; omega
theorem same_mem {ps : List Pl} (h : ps.Pairwise fun a b => a.id < b.id) {a b : Pl} (ha : a ∈ ps) (hb : b ∈ ps) (e : a.id = b.id) : a = b := by
  obtain ⟨i, hi, rfl⟩ := List.mem_iff_getElem.1 ha
  obtain ⟨j, hj, rfl⟩ := List.mem_iff_getElem.1 hb
  obtain rfl := same_id h hi hj e
  rfl
theorem bang {α : Type} [Inhabited α] {l : List α} {i : Nat} (h : i < l.length) : l[i]! = l[i] := by simp [h]

theorem SeesPost.sub {F : V3 → V3 → Int} {id : Int} {m : Nat} {ps : List Pl} {ss : List Sh} {os : List Pl} {oh : List Sh} (h : SeesPost F id m ps ss os oh) : os.Sublist ps ∧ oh.Sublist ss := by
  unfold SeesPost at h
  split at h
  · rw [h.1, h.2]; exact ⟨List.nil_sublist _, List.nil_sublist _⟩
  · obtain ⟨l3, hc, rfl, rfl⟩ := h
    exact ⟨outPl_sub hc, outSh_sub hc⟩

/-- Seen again, all of it is. -/
theorem sees_twice {F : V3 → V3 → Int} (hF : ∀ a b, 0 ≤ F a b) {id : Int} {m : Nat} (hm : 0 < m) {ps : List Pl} {ss : List Sh} {os os2 : List Pl} {oh oh2 : List Sh} (hid : ps.Pairwise fun a b => a.id < b.id) (h20 : ps.length ≤ 20)
    (h1 : SeesPost F id m ps ss os oh) (h2 : SeesPost F id m os oh os2 oh2) : os2 = os ∧ oh2 = oh := by
  have hsub := h1.sub
  unfold SeesPost at h1
  split at h1
  · obtain ⟨rfl, rfl⟩ := h1
    exact h2
  · rename_i mi hmi
    obtain ⟨hlt, hpid, _⟩ := List.findIdx?_eq_some_iff_getElem.1 hmi
    obtain ⟨l3, hc, ho, hh⟩ := h1
    rw [bang hlt] at hc
    obtain ⟨p, hp⟩ : ∃ p, ps[mi] = p := ⟨_, rfl⟩
    have hpm : p ∈ ps := hp ▸ List.getElem_mem hlt
    rw [hp] at hc hpid
    have hpid : p.id = id := by simpa using hpid
    -- p is kept
    have hx0 : (⟨-1, 0, 0, mi⟩ : Seen) ∈ (allSeen F id mi p.pos ps ss).take 20 := by
      unfold allSeen
      rw [List.take_append, List.take_of_length_le (by have := flat_le (f := fun i => plSeen F mi p.pos i ps[i]!) (fun i => (plSeen_one i _).2) ps.length; unfold plsSeen; omega)]
      exact List.mem_append_left _ (List.mem_flatMap.2 ⟨mi, List.mem_range.2 hlt, by simp [plSeen]⟩)
    have hleast : ∀ y ∈ allSeen F id mi p.pos ps ss, y = (⟨-1, 0, 0, mi⟩ : Seen) ∨ (-1 : Int) < y.far := by
      intro y hy
      rcases List.mem_append.1 hy with hy | hy
      · obtain ⟨i, _, hi⟩ := List.mem_flatMap.1 hy
        unfold plSeen at hi
        split at hi
        · rename_i e; subst e; simp at hi; exact .inl hi
        · split at hi
          · rw [List.mem_singleton] at hi; have := hF ps[i]!.pos p.pos; rw [hi]; exact .inr (by simp only; omega)
          · simp at hi
      · obtain ⟨i, _, hi⟩ := List.mem_flatMap.1 hy
        unfold shSeen at hi
        split at hi
        · rw [List.mem_singleton] at hi
          rw [hi]
          refine .inr ?_
          simp only [shFar]
          split
          · omega
          · have := hF ss[i]!.pos p.pos; omega
        · simp at hi
    obtain ⟨l1, hl1, hl3, hfirst⟩ := hc.ex
    have hhead := hfirst _ hx0 hleast
    have hx1 : (⟨-1, 0, 0, mi⟩ : Seen) ∈ l3 := by
      refine hl3.mem_iff.2 ?_
      cases l1 with
      | nil => simp at hhead
      | cons y r =>
        simp at hhead
        subst hhead
        obtain ⟨k, rfl⟩ : ∃ k, m = k + 1 := ⟨m - 1, by omega⟩
        simp
    have hpo : p ∈ os := by
      rw [ho]
      refine List.mem_map.2 ⟨⟨-1, 0, 0, mi⟩, List.mem_filter.2 ⟨hx1, rfl⟩, ?_⟩
      simp [bang hlt, hp]
    have hin : ∀ x ∈ l3, x ∈ allSeen F id mi p.pos ps ss := fun x hx => hl1.mem_iff.1 ((List.take_sublist m l1).subset (hl3.mem_iff.1 hx))
    have hnearP : ∀ q ∈ os, q = p ∨ F q.pos p.pos ≤ 786432 := by
      intro q hq
      rw [ho] at hq
      obtain ⟨x, hx, rfl⟩ := List.mem_map.1 hq
      obtain ⟨hx, hxs⟩ := List.mem_filter.1 hx
      have hx2 : x ∈ (allSeen F id mi p.pos ps ss).filter isPl := List.mem_filter.2 ⟨hin x hx, hxs⟩
      rw [allPl] at hx2
      obtain ⟨i, hi, hx3⟩ := List.mem_flatMap.1 hx2
      have hpl := (plSeen_one i _).1 x hx3
      rw [hpl]
      simp only [Int.toNat_natCast]
      unfold plSeen at hx3
      split at hx3
      · rename_i e; subst e; exact .inl (by rw [bang hlt, hp])
      · split at hx3
        · rename_i h; exact .inr h
        · simp at hx3
    have hnearS : ∀ s ∈ oh, shFar F id p.pos s ≤ 786432 := by
      intro q hq
      rw [hh] at hq
      obtain ⟨x, hx, rfl⟩ := List.mem_map.1 hq
      obtain ⟨hx, hxs⟩ := List.mem_filter.1 hx
      have hx2 : x ∈ (allSeen F id mi p.pos ps ss).filter isSh := List.mem_filter.2 ⟨hin x hx, hxs⟩
      rw [allSh] at hx2
      obtain ⟨i, hi, hx3⟩ := List.mem_flatMap.1 hx2
      have hpl := (shSeen_one i _).1 x hx3
      rw [hpl]
      simp only [Int.toNat_natCast]
      unfold shSeen at hx3
      split at hx3
      · rename_i h; exact h
      · simp at hx3
    have hlen : os.length + oh.length ≤ m := by
      have : os.length + oh.length = l3.length := by rw [ho, hh]; unfold outPl outSh; rw [List.length_map, List.length_map, len_parts]
      rw [this, hl3.length_eq, List.length_take]
      omega
    have hido : os.Pairwise fun a b => a.id < b.id := hid.sublist hsub.1
    clear ho hh hc hl1 hl3 hfirst hhead hx1 hin hx0 hleast hmi
    unfold SeesPost at h2
    split at h2
    · rename_i hn
      have := List.findIdx?_eq_none_iff.1 hn p hpo
      simp [hpid] at this
    · rename_i mj hmj
      obtain ⟨hlj, hjid, _⟩ := List.findIdx?_eq_some_iff_getElem.1 hmj
      obtain ⟨l4, hc4, ho4, hh4⟩ := h2
      have hjid : os[mj].id = id := by simpa using hjid
      have hjp : os[mj] = p := same_mem hido (List.getElem_mem hlj) hpo (by rw [hjid, hpid])
      rw [bang hlj, hjp] at hc4
      have c1 : (plsSeen F mj p.pos os os.length).length = os.length := flat_one _ fun i hi => by
        rw [bang hi]
        unfold plSeen
        split
        · rfl
        · rename_i hne
          rcases hnearP os[i] (List.getElem_mem hi) with e | h
          · exact absurd (same_id hido hi hlj (by rw [e, hjp])) hne
          · rw [if_pos h]; rfl
      have c2 : (shsSeen F id p.pos oh oh.length).length = oh.length := flat_one _ fun i hi => by
        rw [bang hi]
        unfold shSeen
        rw [if_pos (hnearS oh[i] (List.getElem_mem hi))]; rfl
      obtain ⟨l5, h5, h6, _⟩ := hc4.ex
      have hl5 : l5.length ≤ m := by
        rw [h5.length_eq]; unfold allSeen; rw [List.length_append, c1, c2]; exact hlen
      rw [List.take_of_length_le hl5] at h6
      have h7 := h6.trans h5
      have e1 : os2 = os := by
        rw [ho4]
        refine (outPl_sub hc4).eq_of_length ?_
        unfold outPl
        rw [List.length_map, (h7.filter isPl).length_eq, allPl, c1]
      have e2 : oh2 = oh := by
        rw [hh4]
        refine (outSh_sub hc4).eq_of_length ?_
        unfold outSh
        rw [List.length_map, (h7.filter isSh).length_eq, allSh, c2]
      exact ⟨e1, e2⟩
end Go.Proofs.YtbilegkffooioaaGreatDoor
/-
  view.Sees: whom it is about (slices.IndexFunc of its first closure), and the closure that adds what is seen.
-/
namespace Go.Proofs.YtbilegkffooioaaGreatDoor
open Go.RowKit

theorem idx_find {α : Type} (p : α → Bool) (x : α) : ∀ (l : List α) (i : Nat), Lib.idxByFrom (fun _ y => p y) x l i = match l.findIdx? p with
    | none => -1
    | some k => ((i + k : Nat) : Int)
  | [], i => rfl
  | y :: r, i => by
    rw [Lib.idxByFrom, List.findIdx?_cons]
    cases h : p y with
    | true => simp
    | false =>
      rw [idx_find p x r (i + 1)]
      cases h2 : r.findIdx? p with
      | none => simp
      | some k =>
        simp only [Option.map_some, Bool.false_eq_true, if_false]
        congr 1
        omega

set_option maxHeartbeats 2000000 in
set_option maxRecDepth 100000 in
theorem isId_calls (bi : Nat) (id : Int) (p : Pl) (W : World) (h : W.cell? ⟨bi, 0, none⟩ = some (.int .i64 id)) :
    Calls Tryz.prog 34 #[p.val, .pointer (some ⟨bi, 0, none⟩)] W fun e w' => e = .returned (.bool (p.id == id)) ∧ W.grownBy w' none := by
  obtain ⟨b, hb⟩ : ∃ b, (p.id == id) = b := ⟨_, rfl⟩
  rw [hb]
  have h2 := World.block_lt_of_cell? W _ h
  rcases b with _ | _
  all_goals
    go_enter Tryz.func34, Tryz.ntmps34
    go_wp2
    go_ret
    exact ⟨by simp, World.grownBy_alloc _ _ none⟩

set_option maxHeartbeats 2000000 in
theorem index0_calls (A : Option Addr) (c : Nat) (fv : Value) (w : World) : Calls Tryz.prog 33 #[.slice A 0 c, fv] w fun e w' => e = .returned (.int .i64 (-1)) ∧ w.grownBy w' none := by
  go_enter Tryz.func33, Tryz.ntmps33
  go_wp2
  refine wp_loop_rounds 1 ?_
  rw [rounds_succ]
  go_wp2
  go_ret
  exact ⟨rfl, World.grownBy.refl _ _⟩

/-- Whose place it is. -/
def meI (ps : List Pl) (id : Int) : Int := match ps.findIdx? (fun p => p.id == id) with
  | none => -1
  | some k => (k : Int)
theorem index_calls (B n c bi : Nat) (A : Option Addr) (id : Int) (ps : List Pl) (hn : n ≤ 1000000) (w : World) (h : Rg 15 Pl.cl w B A n ps) (hB : B ≤ w.heap.size) (hbi : w.cell? ⟨bi, 0, none⟩ = some (.int .i64 id)) :
    Calls Tryz.prog 33 #[.slice A n c, .func (.func 34) #[] #[.pointer (some ⟨bi, 0, none⟩)]] w fun e w' => e = .returned (.int .i64 (meI ps id)) ∧ w.grownBy w' none := by
  rcases Nat.eq_zero_or_pos n with rfl | hpos
  · have : ps = [] := List.eq_nil_of_length_eq_zero h.1
    subst this
    exact index0_calls A c _ w
  · obtain ⟨b, off, rfl, hb, hr⟩ := h.2 hpos
    have hlen := h.1
    refine (AnyQ.slices_IndexFunc (P := Tryz.prog) (ρ := Tryz.indexPlayer_ren) Tryz.indexPlayer 15 Tryz.isAgg38 Tryz.sizeOf38 Pl.cl Pl.cl_len (fun p => p.id == id) 34 #[.pointer (some ⟨bi, 0, none⟩)] (enters_of Tryz.func34 (by kernel_rfl) rfl) b off n c ps w ?_ (by omega) (by omega) (by omega) ?_).mono ?_
    · intro W x hW
      refine (isId_calls bi id x W ?_).mono ?_
      · rw [hW.cell (p := ⟨bi, 0, none⟩) (World.block_lt_of_cell? w _ hbi)]
        exact hbi
      · rintro e w' ⟨rfl, hg⟩
        exact ⟨rfl, hW.trans ⟨hg.os, hg.tape, hg.output, hg.size, fun k hk => hg.block k (Nat.lt_of_lt_of_le hk hW.size) (by simp)⟩⟩
    · intro j hj i v hv
      have hx : ps[j]? = some ps[j]! := by simp [hj]
      have := hr (j * 15 + i) v (flat_at Pl.cl_len ps j _ hx i v hv)
      rw [← Nat.add_assoc] at this
      exact this
    · rintro e w' ⟨rfl, hb'⟩
      refine ⟨?_, grown_below hb'⟩
      rw [List.take_of_length_le (by omega)]
      unfold Lib.idxBy meI
      rw [idx_find]
      cases ps.findIdx? (fun p => p.id == id) with
      | none => rfl
      | some k => simp

/-- The world in which the closure begins. -/
def AdV (w : World) (c1 c2 : Array Value) : World := (w.alloc (.cells c1 97)).alloc (.cells c2 35)
theorem adV_grown (w : World) (c1 c2 : Array Value) : w.grownBy (AdV w c1 c2) none := (World.grownBy_alloc _ _ none).trans (World.grownBy_alloc _ _ none)
theorem adV_blks {w W : World} {c1 c2 : Array Value} (h : (AdV w c1 c2).grownBy W none) : Blk W w.heap.size 97 c1 ∧ Blk W (w.heap.size + 1) 35 c2 := by
  have e1 : (w.alloc (.cells c1 97)).heap.size = w.heap.size + 1 := by simp
  have h1 := (Blk.new w 97 c1).alloc (.cells c2 35)
  have h2 := Blk.new (w.alloc (.cells c1 97)) 35 c2
  rw [e1] at h2
  exact ⟨h1.grown h (by simp), h2.grown h (by simp)⟩
/-- What the closure reads. -/
theorem adV_cells {w W : World} {c0 c1 c2 c3 x y z : Value} {b4 b7 b o : Nat} {Ap : Option Addr} {np cp : Nat} {me : Int} {p : Pl}
    (h : (AdV w #[c0, c1, c2, c3] #[x, y, z]).grownBy W none) (h4 : w.cell? ⟨b4, 0, none⟩ = some (.slice Ap np cp)) (h7 : w.cell? ⟨b7, 0, none⟩ = some (.int .i64 me)) (hp : w.rangeAt b o p.cl) :
    W.cell? ⟨w.heap.size + 1, 0, none⟩ = some x ∧ W.cell? ⟨w.heap.size + 1, 1, none⟩ = some y ∧ W.cell? ⟨w.heap.size + 1, 2, none⟩ = some z ∧
    W.cell? ⟨b4, 0, none⟩ = some (.slice Ap np cp) ∧ W.cell? ⟨b7, 0, none⟩ = some (.int .i64 me) ∧
    W.cell? ⟨b, o + 1, none⟩ = some (.int .i64 p.px) ∧ W.cell? ⟨b, o + 2, none⟩ = some (.int .i64 p.py) ∧ W.cell? ⟨b, o + 3, none⟩ = some (.int .i64 p.pz) := by
  obtain ⟨_, h2⟩ := adV_blks h
  have hg := (adV_grown w _ _).trans h
  obtain ⟨_, q1, q2, q3, _⟩ := pl_cells hp
  have kk : ∀ (k i : Nat) (u : Value), w.cell? ⟨k, i, none⟩ = some u → W.cell? ⟨k, i, none⟩ = some u := fun k i u hu => grown_at hg k i u hu (World.block_lt_of_cell? w _ hu) (by simp)
  exact ⟨h2.cell 0, h2.cell 1, h2.cell 2, kk _ _ _ h4, kk _ _ _ h7, kk _ _ _ q1, kk _ _ _ q2, kk _ _ _ q3⟩
theorem adV_free {w W : World} {c0 c1 c2 c3 x y z : Value} (h : (AdV w #[c0, c1, c2, c3] #[x, y, z]).grownBy W none) : W.cell? ⟨w.heap.size, 0, none⟩ = some c0 ∧ W.cell? ⟨w.heap.size, 1, none⟩ = some c1 ∧ W.cell? ⟨w.heap.size, 2, none⟩ = some c2 ∧ W.cell? ⟨w.heap.size, 3, none⟩ = some c3 ∧ W.frozen? ⟨w.heap.size, 0, none⟩ = false := by
  obtain ⟨h1, _⟩ := adV_blks h
  exact ⟨h1.cell 0, h1.cell 1, h1.cell 2, h1.cell 3, h1.free 0⟩
theorem loadV3 {w : World} {b o : Nat} {x y z : Value} (h0 : w.cell? ⟨b, o, none⟩ = some x) (h1 : w.cell? ⟨b, o + 1, none⟩ = some y) (h2 : w.cell? ⟨b, o + 2, none⟩ = some z) : (Instr.loadAt 35 (.pointer (some ⟨b, o, none⟩))).run Tryz.prog w = .ok (.agg #[x, y, z]) w :=
  run_loadAt_mid w b o 35 [x, y, z] _ (fun j u hu => by
    rcases j with _ | _ | _ | j
    · simp at hu; subst hu; exact h0
    · simp at hu; subst hu; exact h1
    · simp at hu; subst hu; exact h2
    · simp at hu) Tryz.underlying35 rfl Tryz.size35

/-- Points in their bounds. -/
def V64 (a : V3) : Prop := I64 a.1 ∧ I64 a.2.1 ∧ I64 a.2.2

theorem rg_lit {α : Type} {sz : Nat} {cl : α → List Value} (w : World) (x : α) (t : TypeId) {cs : Array Value} (hcs : cs = (cl x).toArray) : Rg sz cl (w.alloc (.cells cs t)) (w.heap.size + 1) (some ⟨w.heap.size, 0, none⟩) 1 [x] := by
  subst hcs
  refine ⟨rfl, fun _ => ⟨w.heap.size, 0, rfl, by omega, fun j u hu => ?_⟩⟩
  rw [Nat.zero_add]
  have e1 := cell_of_row _ _ j (cl x).toArray t (0, 0) (heap_alloc_new w (.cells (cl x).toArray t))
  rw [e1, List.getElem?_toArray]
  simpa using hu
theorem rg_lit_at {α : Type} {sz : Nat} {cl : α → List Value} (w : World) (x : α) (t : TypeId) {cs : Array Value} {g : Nat} (hg : w.heap.size = g) (hcs : cs = (cl x).toArray) : Rg sz cl (w.alloc (.cells cs t)) (g + 1) (some ⟨g, 0, none⟩) 1 [x] := by
  subst hg
  exact rg_lit w x t hcs
theorem encSeens_one (l : List Seen) : ∀ u ∈ l.flatMap encSeen, u.oneCell' = true := by
  intro u hu
  obtain ⟨c, _, hc⟩ := List.mem_flatMap.1 hu
  exact encSeen_one c u hc
theorem own_other {w : World} {base : Nat} {e : TypeId} {size : Nat} {v : Value} {n : Nat} {xs : List Value} (h : w.ownsRow base e size v n xs) {a : Addr} (ha : v.ownBlock ≠ some a.block) (u : Value) : (w.setCell a u).ownsRow base e size v n xs := by
  obtain ⟨h1, h2⟩ := h
  refine ⟨h1, ?_⟩
  rcases h2 with h2 | ⟨g, cap, cur, hv, hg, hh, r⟩
  · exact Or.inl h2
  · subst hv
    have hne : g ≠ a.block := fun e => ha (by rw [e]; rfl)
    exact Or.inr ⟨g, cap, cur, rfl, hg, by rw [Below.heap_setCell _ _ _ _ hne]; exact hh, r⟩

/-- What the closure leaves: the row L' in the cell at b8. -/
def AddPost (base b8 : Nat) (w : World) (v : Value) (L' : List Seen) (w' : World) : Prop := ∃ v', Blk w' b8 95 #[v'] ∧ w'.ownsRow base 97 4 v' L'.length (L'.flatMap encSeen) ∧ Frm w w' b8 v.ownBlock ∧ (v'.ownBlock = v.ownBlock ∨ ∀ k, v'.ownBlock = some k → w.heap.size ≤ k)
theorem addPost_none {base b8 n : Nat} {w W : World} {v : Value} {L : List Seen} (hg : w.grownBy W none) (h8 : Blk w b8 95 #[v]) (ho : w.ownsRow base 97 4 v n (L.flatMap encSeen)) (hL : L.length = n) : AddPost base b8 w v L W := by
  subst hL
  exact ⟨v, h8.grown hg (by simp), own_kept ho hg, (Frm.refl w b8 _).grown hg (.inr (.inr (fun _ e => by cases e))), .inl rfl⟩
theorem addPost_some {base b8 n c2 : Nat} {w W w4 : World} {v : Value} {A2 : Option Addr} {L : List Seen} {x : Seen} (hg : w.grownBy W none) (hL : L.length = n) (h8 : b8 < base) (h1 : w4.ownsRow base 97 4 (.slice A2 (n + 1) c2) (n + 1) ((L ++ [x]).flatMap encSeen)) (h2 : W.grownBy w4 v.ownBlock)
    (h3 : (Value.slice A2 (n + 1) c2).ownBlock = v.ownBlock ∨ (Value.slice A2 (n + 1) c2).ownBlock = some W.heap.size) (hb : Blk w4 b8 95 #[v]) : AddPost base b8 w v (L ++ [x]) (w4.setCell ⟨b8, 0, none⟩ (.slice A2 (n + 1) c2)) := by
  have hlen : (L ++ [x]).length = n + 1 := by simp [hL]
  refine ⟨.slice A2 (n + 1) c2, (hb.put 0 _).of_ rfl, ?_, ?_, ?_⟩
  · rw [hlen]
    exact own_other h1 (fun e => by have := (h1.lt _ e).1; simp only at this; omega) _
  · exact (((Frm.refl w b8 _).grown hg (.inr (.inr (fun _ e => by cases e)))).grown h2 (.inl rfl)).grown (World.grownBy_setCell' w4 b8 0 _) (.inr (.inl rfl))
  · rcases h3 with h3 | h3
    · exact .inl h3
    · exact .inr fun k e => by rw [h3] at e; injection e with e; have := hg.size; omega

set_option maxHeartbeats 8000000 in
set_option maxRecDepth 1000000 in
/-- How far: the closure's first two statements, as one region. -/
theorem addSeen_calls (base b4 b7 b8 B np cp ns cs n : Nat) (Ap As : Option Addr) (ps : List Pl) (me : Nat) (id so pl : Int) (pos : V3) (own : Bool) (L : List Seen) (v : Value) (w : World)
    (hpos : V64 pos) (hme : me < np) (hmp : V64 (ps[me]!).pos) (hb4 : Blk w b4 26 #[.slice Ap np cp, .slice As ns cs]) (hb7 : Blk w b7 3 #[.int .i64 me]) (hb8 : Blk w b8 95 #[v])
    (hp : Rg 15 Pl.cl w B Ap np ps) (hB : B ≤ w.heap.size) (hown : w.ownsRow base 97 4 v n (L.flatMap encSeen)) (hL : L.length = n) (hn : n ≤ 1000) (hbase : base ≤ w.heap.size) (h8 : b8 < base) (fd : Int) (hfd : (if own = true then 0 else farF pos (ps[me]!).pos) = fd) :
    Calls Tryz.prog 35 #[.agg #[.int .i64 0, .int .i64 id, .int .i64 so, .int .i64 pl], .agg #[.int .i64 pos.1, .int .i64 pos.2.1, .int .i64 pos.2.2], .bool own, .pointer (some ⟨b4, 0, none⟩), .pointer (some ⟨b7, 0, none⟩), .pointer (some ⟨b8, 0, none⟩)] w fun e w' =>
      e = .returned (.tuple #[]) ∧ AddPost base b8 w v (L ++ if fd ≤ 786432 then [(⟨fd, id, so, pl⟩ : Seen)] else []) w' := by
  subst hfd
  obtain ⟨b, off, p, rfl, hb, hx, hr⟩ := hp.at_ Pl.cl_len hme
  have hpe : ps[me]! = p := by simp [hx]
  rw [hpe] at hmp ⊢
  obtain ⟨x, y, z⟩ := pos
  obtain ⟨far, hfar⟩ : ∃ far, farF (x, y, z) p.pos = far := ⟨_, rfl⟩
  have HM := Lib.hid (fun W => minus_calls x y z p.px p.py p.pz hpos.1 hpos.2.1 hpos.2.2 hmp.1 hmp.2.1 hmp.2.2 W)
  have HLO := Lib.hid (fun W => long_calls (subF x p.px) (subF y p.py) (subF z p.pz) (subF_in hpos.1 hmp.1) (subF_in hpos.2.1 hmp.2.1) (subF_in hpos.2.2 hmp.2.2) W)
  have e1 : longF (subF x p.px) (subF y p.py) (subF z p.pz) = far := hfar
  rw [e1] at HLO
  rw [hfar]
  obtain ⟨L', hL'⟩ : ∃ L', (L ++ if (if own then 0 else far) ≤ 786432 then [(⟨if own then 0 else far, id, so, pl⟩ : Seen)] else []) = L' := ⟨_, rfl⟩
  rw [hL']
  have HL2 := Lib.hid hL'
  clear hL'
  simp only
  have HC : Hid (∀ W, (AdV w #[.int .i64 0, .int .i64 id, .int .i64 so, .int .i64 pl] #[.int .i64 x, .int .i64 y, .int .i64 z]).grownBy W none → _) := Lib.hid fun W h => adV_cells (W := W) h (hb4.cell 0) (hb7.cell 0) hr
  have H4 := Lib.hid hb4
  have H7 := Lib.hid hb7
  have H8 := Lib.hid hb8
  have HO := Lib.hid hown
  have HLN := Lib.hid hL
  have HV0 : Hid ((AdV w #[.int .i64 0, .int .i64 id, .int .i64 so, .int .i64 pl] #[.int .i64 x, .int .i64 y, .int .i64 z]).grownBy (AdV w #[.int .i64 0, .int .i64 id, .int .i64 so, .int .i64 pl] #[.int .i64 x, .int .i64 y, .int .i64 z]).drew none) := Lib.hid ⟨rfl, rfl, rfl, Nat.le_refl _, fun _ _ _ => rfl⟩
  have hbm : (me : Int) < (np : Int) := by omega
  have m1 : ¬ (w.heap.size = b4) := by have := hb4.lt; omega
  have m2 : ¬ (w.heap.size = b7) := by have := hb7.lt; omega
  have m3 : ¬ (w.heap.size = b) := by have := hb; omega
  clear hp hb hx hr hpe hmp hb4 hb7 hb8 hown hL hfar e1 hpos
  go_enter Tryz.func35, Tryz.ntmps35
  go_wp2_with fail
  have hc0 := HC.out _ HV0.out
  unfold AdV at hc0
  have n1 : ¬ (w.heap.size = w.heap.size + 1) := by omega
  go_region_held3 (fun W => W.cell? ⟨w.heap.size + 1, 0, none⟩ = some (.int .i64 x) ∧ W.cell? ⟨w.heap.size + 1, 1, none⟩ = some (.int .i64 y) ∧ W.cell? ⟨w.heap.size + 1, 2, none⟩ = some (.int .i64 z) ∧
    W.cell? ⟨b4, 0, none⟩ = some (.slice (some ⟨b, off, none⟩) np cp) ∧ W.cell? ⟨b7, 0, none⟩ = some (.int .i64 me) ∧
    W.cell? ⟨b, off + me * 15 + 1, none⟩ = some (.int .i64 p.px) ∧ W.cell? ⟨b, off + me * 15 + 2, none⟩ = some (.int .i64 p.py) ∧ W.cell? ⟨b, off + me * 15 + 3, none⟩ = some (.int .i64 p.pz)) (go_keep)
    (first
      | (go_at_call 37; refine (HM.out _).mono ?_; rintro e w1 ⟨rfl, hg⟩; have HV1 := Lib.hid (HV0.out.trans hg); clear hg; have hc1 := HC.out _ HV1.out)
      | (go_at_call 36; refine (HLO.out _).mono ?_; rintro e w2 ⟨rfl, hg⟩; have HV2 := Lib.hid (HV1.out.trans hg); clear hg; have hc2 := HC.out _ HV2.out; have hf2 := adV_free HV2.out))
  have h97 := (adV_blks HV2.out).1.put 0 (.int .i64 far)
  have hg3 := set_lo ((adV_grown w _ _).trans HV2.out) (Nat.le_refl _) 0 (.int .i64 far)
  obtain ⟨W3, hW3⟩ : ∃ W3, w2.setCell ⟨w.heap.size, 0, none⟩ (.int .i64 far) = W3 := ⟨_, rfl⟩
  rw [hW3] at h97 hg3 ⊢
  have h97 : Blk W3 w.heap.size 97 #[.int .i64 far, .int .i64 id, .int .i64 so, .int .i64 pl] := h97.of_ rfl
  have hne8 : ¬ (w.heap.size = b8) := by have := H8.out.lt; omega
  have hv8 : some b8 ≠ v.ownBlock := fun e => by have := (HO.out.lt _ e.symm).1; omega
  have d8 := (H8.out.grown hg3 (by simp)).cell 0
  have HG3 := Lib.hid hg3
  have H97 := Lib.hid h97
  have HV8 := Lib.hid hv8
  have d0 := h97.cell 0
  have d1 := h97.cell 1
  have d2 := h97.cell 2
  have d3 := h97.cell 3
  have f0 := h97.free 0
  clear hc0 hW3 h97 hg3 hv8 HV0 HV1 HV2 hc1 hc2 hf2 HC HM HLO hbm hme n1 m1 m2 m3
  rcases own with _ | _
  · by_cases hf : far ≤ 786432
    · have HE : Hid (L' = L ++ [(⟨far, id, so, pl⟩ : Seen)]) := Lib.hid (by rw [← HL2.out]; simp [hf])
      clear HL2
      go_wp2_with (at_builtin; refine wpList_append_rg rfl (.tmp 24) (.tmp 26) 95 rfl base 97 (.agg #[.int .i64 0, .int .i64 0, .int .i64 0, .int .i64 0]) 4 32 encSeen_len Tryz.underlying95 Tryz.info97 rfl (by decide) v n L rfl (own_kept HO.out (HG3.out.trans (World.grownBy_alloc _ _ none))) _ _ 1 1 [⟨far, id, so, pl⟩] rfl (rg_lit _ _ _ rfl) (encSeens_one _) (n + 1) rfl (by simp only [maxLen]; omega) (by omega) (Nat.le_trans hbase (HG3.out.trans (World.grownBy_alloc _ _ none)).size) ?_; intro A2 c2 w4 hown hgrow hat; have H1 := Lib.hid hown; have H2 := Lib.hid hgrow; have H3 := Lib.hid hat; have j8 := ((H8.out.grown (HG3.out.trans (World.grownBy_alloc _ _ none)) (by simp)).grown hgrow HV8.out); have e8 := j8.cell 0; have g8 := j8.free 0; have HB8 := Lib.hid j8; clear hown hgrow hat j8)
      go_end0
      refine ⟨rfl, ?_⟩
      rw [HE.out]
      exact addPost_some (HG3.out.trans (World.grownBy_alloc _ _ none)) HLN.out h8 H1.out H2.out H3.out HB8.out
    · have HE : Hid (L' = L) := Lib.hid (by rw [← HL2.out]; simp [hf])
      clear HL2
      go_wp2
      go_end0
      refine ⟨rfl, ?_⟩
      rw [HE.out]
      exact addPost_none HG3.out H8.out HO.out HLN.out
  · have HE : Hid (L' = L ++ [(⟨0, id, so, pl⟩ : Seen)]) := Lib.hid (by rw [← HL2.out]; simp)
    clear HL2
    go_wp2_with (at_builtin; refine wpList_append_rg rfl (.tmp 24) (.tmp 26) 95 rfl base 97 (.agg #[.int .i64 0, .int .i64 0, .int .i64 0, .int .i64 0]) 4 32 encSeen_len Tryz.underlying95 Tryz.info97 rfl (by decide) v n L rfl (own_kept HO.out ((set_lo HG3.out (Nat.le_refl _) 0 _).trans (World.grownBy_alloc _ _ none))) _ _ 1 1 [⟨0, id, so, pl⟩] rfl (rg_lit_at _ _ _ (by simp) rfl) (encSeens_one _) (n + 1) rfl (by simp only [maxLen]; omega) (by omega) (Nat.le_trans hbase ((set_lo HG3.out (Nat.le_refl _) 0 _).trans (World.grownBy_alloc _ _ none)).size) ?_; intro A2 c2 w4 hown hgrow hat; have H1 := Lib.hid hown; have H2 := Lib.hid hgrow; have H3 := Lib.hid hat; have j8 := ((H8.out.grown ((set_lo HG3.out (Nat.le_refl _) 0 _).trans (World.grownBy_alloc _ _ none)) (by simp)).grown hgrow HV8.out); have e8 := j8.cell 0; have g8 := j8.free 0; have HB8 := Lib.hid j8; clear hown hgrow hat j8)
    go_end0
    refine ⟨rfl, ?_⟩
    rw [HE.out]
    exact addPost_some ((set_lo HG3.out (Nat.le_refl _) 0 _).trans (World.grownBy_alloc _ _ none)) HLN.out h8 H1.out H2.out H3.out HB8.out
end Go.Proofs.YtbilegkffooioaaGreatDoor
/-
  slices.SortStableFunc at 'seen', of 38 at most: a permutation; what is below all others, if it is of the first twenty, comes first.
-/
namespace Go.Proofs.YtbilegkffooioaaGreatDoor
open Go.Shelf Go.RowKit Go.Lib Go.Sort
variable {α : Type} [Inhabited α]

theorem permIn_symm {a b : Nat} {d d' : Array α} (h : PermIn a b d d') : PermIn a b d' d := ⟨h.1.symm, fun i hi => (h.2.1 i hi).symm, h.2.2.symm⟩

/-- x is below all others of a row. -/
def LeastOf (cf : α → α → Int) (x : α) (d : Array α) : Prop := ∀ i, i < d.size → d[i]! = x ∨ cf x d[i]! < 0

/-- What is below all others is first behind an insertion sort. -/
theorem insertion_first {cf : α → α → Int} (hO : SWO (ltOf cf)) {d : Array α} {b : Nat} {x : α} (hb : b ≤ d.size) {j : Nat} (hj : j < b) (hx : d[j]! = x) (hl : LeastOf cf x d) :
    (Sort.insertionSort (ltOf cf) d 0 b)[0]! = x := by
  obtain ⟨hP, hS⟩ := insertionSort_holds hO d 0 b (Nat.zero_le _) hb
  generalize Sort.insertionSort (ltOf cf) d 0 b = d1 at hP hS ⊢
  -- x is among them
  have hex : ∃ p, p < b ∧ d1[p]! = x := by
    refine Classical.byContradiction fun hn => ?_
    have hall : ∀ i, 0 ≤ i → i < b → d1[i]! ≠ x := fun i _ hi he => hn ⟨i, hi, he⟩
    exact permIn_all d1 d 0 b (fun y => y ≠ x) (by rw [hP.1]; exact hb) (permIn_symm hP) hall j (Nat.zero_le _) hj hx
  obtain ⟨p, hp, hpx⟩ := hex
  rcases Nat.eq_zero_or_pos p with rfl | hp0
  · exact hpx
  · have h1 := hS 0 p (Nat.le_refl _) hp0 hp
    have h2 := permIn_all d d1 0 b (fun y => y = x ∨ cf x y < 0) hb hP (fun i _ hi => hl i (by omega)) 0 (Nat.le_refl _) (by omega)
    rw [hpx] at h1
    rcases h2 with h2 | h2
    · exact h2
    · rw [show ltOf cf x d1[0]! = true from decide_eq_true h2] at h1
      cases h1

theorem LeastOf.least {cf : α → α → Int} (hO : SWO (ltOf cf)) {d : Array α} {x : α} (h : LeastOf cf x d) (h0 : d[0]! = x) : Least cf 0 d.size d := by
  intro i _ hi hlt
  rw [h0] at hlt
  have h1 : ltOf cf d[i]! x = true := decide_eq_true hlt
  rcases h i hi with h2 | h2
  · rw [h2, hO.irrefl] at h1; cases h1
  · have h3 : ltOf cf x d[i]! = true := decide_eq_true h2
    have h4 := hO.trans _ _ _ h1 h3
    rw [hO.irrefl] at h4; cases h4

theorem LeastOf.perm {cf : α → α → Int} {d d' : Array α} {x : α} {a b : Nat} (h : LeastOf cf x d) (hb : b ≤ d.size) (hP : PermIn a b d d') : LeastOf cf x d' := by
  intro i hi
  rw [hP.1] at hi
  by_cases hab : a ≤ i ∧ i < b
  · exact permIn_all d d' a b (fun y => y = x ∨ cf x y < 0) hb hP (fun k _ hk => h k (by omega)) i hab.1 hab.2
  · rw [hP.2.1 i (by omega)]
    exact h i hi

set_option maxHeartbeats 4000000 in
set_option maxRecDepth 1000000 in
theorem stable_calls (enc : α → List Value) (cf : α → α → Int) (g : Nat) (cb : Array Value) (blk off cap : Nat) (d : Array α) (w : World)
    (eg : ∀ args w, (callFunc g args).run Tryz.prog w = .ok (.enter g args) w) (HC : Aside (CmpLays Tryz.prog g cb enc 4 cf blk off d.size w)) (hO : SWO (ltOf cf))
    (R : RowK enc 4 w blk off d) (h38 : d.size ≤ 38) :
    Calls Tryz.prog 93 #[.slice (some ⟨blk, off, none⟩) d.size cap, .int .i64 d.size, .func (.func g) #[] cb] w fun e w' => e = .returned (.tuple #[]) ∧
      ∃ d', PermIn 0 d.size d d' ∧ SWK enc 4 w blk off d' w' ∧ (∀ x j, j < d.size → j < 20 → d[j]! = x → LeastOf cf x d → d'[0]! = x) := by
  have mixed : Tryz.prog.follows .mixedOrders = true := by kernel_rfl
  have INS : Hid (∀ (a b : Nat) (dk : Array α) (wr : World), dk.size = d.size → SWK enc 4 w blk off dk wr → a ≤ b → b ≤ d.size →
      Calls Tryz.prog 164 #[.slice (some ⟨blk, off, none⟩) d.size cap, .int .i64 a, .int .i64 b, .func (.func g) #[] cb] wr fun e w' => e = .returned (.tuple #[]) ∧ SWK enc 4 w blk off (Sort.insertionSort (ltOf cf) dk a b) w') := fun a b dk wr hd hS h1 h2 => by
    rw [← hd]
    exact AnyQ.insertionSortCmpFunc_w (P := Tryz.prog) (ρ := Tryz.sortSeen_ren) { Tryz.sortSeen with } 4 Tryz.isAgg97 Tryz.sizeOf97 enc cf g cb blk off cap a b d dk w wr eg HC.out R hd.symm hS hO h1 (by omega) (by omega)
  have SYM : Hid (∀ (a m b : Nat) (dk : Array α) (wr : World), dk.size = d.size → SWK enc 4 w blk off dk wr → a < m → m < b → b ≤ d.size →
      Calls Tryz.prog 165 #[.slice (some ⟨blk, off, none⟩) d.size cap, .int .i64 a, .int .i64 m, .int .i64 b, .func (.func g) #[] cb] wr fun e w' => e = .returned (.tuple #[]) ∧ ∃ d', PermIn a b dk d' ∧ SWK enc 4 w blk off d' w' ∧ (Least cf a b dk → d'[a]! = dk[a]!)) := fun a m b dk wr hd hS h1 h2 h3 =>
    symMerge_calls enc cf g cb blk off cap d.size d w eg HC R rfl (by omega) _ a m b dk wr (Nat.le_refl _) hd hS h1 h2 h3
  have S0 : Hid (SWK enc 4 w blk off d w) := SWK.start R.hH
  obtain ⟨n, hn⟩ : ∃ n, d.size = n := ⟨_, rfl⟩
  rw [hn] at INS SYM h38 ⊢
  have HN := Lib.hid hn
  clear hn
  by_cases h20 : n < 20
  · have z1 : ¬ (20 : Int) ≤ (n : Int) := by omega
    have z2 : ¬ (20 : Int) < (n : Int) := by omega
    go_enter Tryz.func93, Tryz.ntmps93
    go_wp2
    refine wp_loop_rounds 1 ?_
    rw [rounds_succ]
    go_wp2_with fail
    refine (INS.out 0 n d w HN.out S0.out (by omega) (by omega)).mono ?_
    rintro _ w1 ⟨rfl, S1⟩
    have S1 := Lib.hid S1
    go_wp2
    refine wp_loop_rounds 1 ?_
    rw [rounds_succ]
    go_wp2
    go_end0
    have hP := (insertionSort_holds hO d 0 n (Nat.zero_le _) (by rw [HN.out]; omega)).1
    exact ⟨rfl, _, hP, S1.out, fun x j h1 h2 h3 h4 => insertion_first hO (by rw [HN.out]; omega) h1 h3 h4⟩
  · have z1 : (20 : Int) ≤ (n : Int) := by omega
    have z3 : ¬ (40 : Int) ≤ (n : Int) := by omega
    have z4 : ¬ (40 : Int) < (n : Int) := by omega
    by_cases h21 : n = 20
    · have z2 : ¬ (20 : Int) < (n : Int) := by omega
      have H21 := Lib.hid h21
      clear h21
      go_enter Tryz.func93, Tryz.ntmps93
      go_wp2
      refine wp_loop_rounds 2 ?_
      rw [rounds_succ]
      go_wp2_with fail
      refine (INS.out 0 20 d w HN.out S0.out (by omega) (by omega)).mono ?_
      rintro _ w1 ⟨rfl, S1⟩
      have S1 := Lib.hid S1
      have hP1 := Lib.hid (insertionSort_holds hO d 0 20 (Nat.zero_le _) (by rw [HN.out]; omega)).1
      go_wp2
      rw [rounds_succ]
      go_wp2_with fail
      refine (INS.out 20 n _ w1 (hP1.out.1.trans HN.out) S1.out (by omega) (by omega)).mono ?_
      rintro _ w2 ⟨rfl, S2⟩
      have S2 := Lib.hid S2
      have hP2 := Lib.hid (insertionSort_holds hO (Sort.insertionSort (ltOf cf) d 0 20) 20 n (by omega) (by rw [hP1.out.1, HN.out]; omega)).1
      go_wp2
      refine wp_loop_rounds 1 ?_
      rw [rounds_succ]
      go_wp2
      go_end0
      refine ⟨rfl, _, permIn_trans _ _ _ _ _ (permIn_mono _ _ 0 20 0 n (by omega) (by omega) (by rw [HN.out]; omega) hP1.out) (permIn_mono _ _ 20 n 0 n (by omega) (by omega) (by rw [hP1.out.1, HN.out]; omega) hP2.out), S2.out, fun x j h1 h2 h3 h4 => ?_⟩
      rw [hP2.out.2.1 0 (Or.inl (by omega))]
      exact insertion_first hO (by rw [HN.out]; omega) h2 h3 h4
    · have z2 : (20 : Int) < (n : Int) := by omega
      go_enter Tryz.func93, Tryz.ntmps93
      go_wp2
      refine wp_loop_rounds 2 ?_
      rw [rounds_succ]
      go_wp2_with fail
      refine (INS.out 0 20 d w HN.out S0.out (by omega) (by omega)).mono ?_
      rintro _ w1 ⟨rfl, S1⟩
      have S1 := Lib.hid S1
      have hP1 := Lib.hid (insertionSort_holds hO d 0 20 (Nat.zero_le _) (by rw [HN.out]; omega)).1
      go_wp2
      rw [rounds_succ]
      go_wp2_with fail
      refine (INS.out 20 n _ w1 (hP1.out.1.trans HN.out) S1.out (by omega) (by omega)).mono ?_
      rintro _ w2 ⟨rfl, S2⟩
      have S2 := Lib.hid S2
      have hP2 := Lib.hid (insertionSort_holds hO (Sort.insertionSort (ltOf cf) d 0 20) 20 n (by omega) (by rw [hP1.out.1, HN.out]; omega)).1
      go_wp2
      refine wp_loop_rounds 2 ?_
      rw [rounds_succ]
      go_wp2
      refine wp_loop_rounds 1 ?_
      rw [rounds_succ]
      go_wp2_with fail
      refine (SYM.out 0 20 n _ w2 (hP2.out.1.trans (hP1.out.1.trans HN.out)) S2.out (by omega) (by omega) (by omega)).mono ?_
      rintro _ w3 ⟨rfl, d3, hP3, S3, hL⟩
      have S3 := Lib.hid S3
      have hP3 := Lib.hid hP3
      have HL := Lib.hid hL
      clear hL
      go_wp2
      rw [rounds_succ]
      go_wp2
      go_end0
      have p1 := permIn_mono _ _ 0 20 0 n (by omega) (by omega) (by rw [HN.out]; omega) hP1.out
      have p2 := permIn_mono _ _ 20 n 0 n (by omega) (by omega) (by rw [hP1.out.1, HN.out]; omega) hP2.out
      refine ⟨rfl, _, permIn_trans _ _ _ _ _ p1 (permIn_trans _ _ _ _ _ p2 hP3.out), S3.out, fun x j h1 h2 h3 h4 => ?_⟩
      have q0 := insertion_first hO (by rw [HN.out]; omega) h2 h3 h4
      have q1 : (Sort.insertionSort (ltOf cf) (Sort.insertionSort (ltOf cf) d 0 20) 20 n)[0]! = x := by rw [hP2.out.2.1 0 (Or.inl (by omega))]; exact q0
      have q2 := (h4.perm (by rw [HN.out]; omega) (permIn_trans _ _ _ _ _ p1 p2)).least hO q1
      rw [hP2.out.1, hP1.out.1, HN.out] at q2
      rw [HL.out q2]
      exact q1
end Go.Proofs.YtbilegkffooioaaGreatDoor
/-
  view.Sees: its two sorts, in terms of lists.
-/
namespace Go.Proofs.YtbilegkffooioaaGreatDoor
open Go.Shelf Go.RowKit Go.Lib Go.Sort

theorem sorted_grown {α : Type} [Inhabited α] (enc : α → List Value) (k : Nat) (w : World) (blk off n : Nat) (d : Array α) (os : Array Obj) : w.grownBy (sortWorldK enc k w blk off n d os) (some blk) := by
  refine ⟨rfl, rfl, rfl, ?_, fun j hj hne => ?_⟩
  · unfold sortWorldK grow putRowK putRow mapBlock Sort.ahead
    simp only [Array.size_append, Array.size_modify]
    omega
  · have hne2 : ¬ blk = j := fun e => hne (by rw [e])
    unfold sortWorldK grow putRowK putRow mapBlock Sort.ahead
    simp only
    rw [Array.getElem?_append_left (by simpa using hj), Array.getElem?_modify, if_neg hne2]

/-- The row at g holds l. -/
def RowIs (w : World) (g : Nat) (l : List Seen) : Prop := HoldsK encSeen 4 w g 0 l.toArray
theorem flat_eq (l : List Seen) (t : Nat) (ht : t < l.length * 4) : (l.flatMap encSeen)[t]? = some (flatK encSeen 4 l.toArray)[t]! := by
  have hk : t / 4 < l.length := by omega
  have hj : t % 4 < 4 := Nat.mod_lt _ (by decide)
  rw [get_flatK _ _ _ t (by simpa using ht)]
  have h1 : l[t / 4]? = some (l.toArray[t / 4]!) := by simp [hk]
  have h2 := flat_at encSeen_len l (t / 4) _ h1 (t % 4) ((encSeen l.toArray[t / 4]!)[t % 4]!) (by
    rw [List.getElem?_eq_getElem (by rw [encSeen_len]; exact hj), getElem!_pos (encSeen l.toArray[t / 4]!) (t % 4) (by rw [encSeen_len]; exact hj)])
  have e : t / 4 * 4 + t % 4 = t := by omega
  rw [e] at h2
  exact h2
theorem own_rowIs {w : World} {base n c g : Nat} {l : List Seen} (h : w.ownsRow base 97 4 (.slice (some ⟨g, 0, none⟩) n c) n (l.flatMap encSeen)) : RowIs w g l := by
  intro t ht
  have ht2 : t < l.length * 4 := by simpa using ht
  refine ⟨?_, ?_⟩
  · have := h.cells (g := g) rfl t _ (flat_eq l t ht2)
    rwa [Addr.add_lit] at this
  · rcases h.2 with ⟨hv, _⟩ | ⟨g', cap', cur, hv, hb, hh, hn, hm, hs, ht⟩
    · cases hv
    · injection hv with h1 h2 h3
      injection h1 with h1
      injection h1 with h1
      subst h1
      exact (show Blk w g 97 cur from hh).free _
theorem RowIs.rg {w : World} {g : Nat} {l : List Seen} (h : RowIs w g l) : Rg 4 encSeen w (g + 1) (some ⟨g, 0, none⟩) l.length l := by
  refine ⟨rfl, fun _ => ⟨g, 0, rfl, by omega, fun j u hu => ?_⟩⟩
  have hj : j < l.length * 4 := by
    have := (List.getElem?_eq_some_iff.1 hu).1
    rwa [flat_len encSeen_len] at this
  rw [flat_eq l j hj] at hu
  injection hu with hu
  rw [← hu]
  exact (h j (by simpa using hj)).1
theorem RowIs.take_ {w : World} {g : Nat} {l : List Seen} (h : RowIs w g l) (k : Nat) : RowIs w g (l.take k) := by
  intro t ht
  have ht2 : t < (l.take k).length * 4 := by simpa using ht
  have ht3 : t < l.length * 4 := by rw [List.length_take] at ht2; omega
  have e : (flatK encSeen 4 (l.take k).toArray)[t]! = (flatK encSeen 4 l.toArray)[t]! := by
    have h1 := flat_eq (l.take k) t ht2
    have h2 := flat_eq l t ht3
    have h3 : ((l.take k).flatMap encSeen)[t]? = (l.flatMap encSeen)[t]? := by
      conv => rhs; rw [← List.take_append_drop k l, List.flatMap_append, List.getElem?_append_left (by rw [flat_len encSeen_len]; exact ht2)]
    rw [h1, h2] at h3
    injection h3
  rw [e]
  exact h t (by simpa using ht3)
theorem perm_list {a : Array Seen} {l : List Seen} (h : PermIn 0 l.toArray.size l.toArray a) : a.toList.Perm l ∧ a.size = l.length := by
  have h3 := h.2.2
  have hs : a.size = l.length := by simpa using h.1
  have e1 : a.extract 0 l.toArray.size = a := by rw [← h.1]; simp
  have e2 : l.toArray.extract 0 l.toArray.size = l.toArray := by simp
  rw [e1, e2] at h3
  exact ⟨by simpa using h3, hs⟩

set_option maxHeartbeats 2000000 in
/-- **slices.SortStableFunc**, of 38 at most. -/
theorem stable38_calls (base n c g : Nat) (l : List Seen) (w : World) (h : w.ownsRow base 97 4 (.slice (some ⟨g, 0, none⟩) n c) n (l.flatMap encSeen)) (hl : l.length = n) (h38 : n ≤ 38) :
    Calls Tryz.prog 38 #[.slice (some ⟨g, 0, none⟩) n c, .func (.func 39) #[] #[]] w fun e w' => e = .returned (.tuple #[]) ∧ ∃ l1 : List Seen, l1.Perm l ∧ RowIs w' g l1 ∧ w.grownBy w' (some g) ∧
      ∀ x : Seen, x ∈ l.take 20 → (∀ y ∈ l, y = x ∨ x.far < y.far) → l1.head? = some x := by
  have hg := (h.lt g rfl).2
  have hR := own_rowIs h
  have HS : Hid (Calls Tryz.prog 93 #[.slice (some ⟨g, 0, none⟩) n c, .int .i64 n, .func (.func 39) #[] #[]] w fun e w' => e = .returned (.tuple #[]) ∧ ∃ l1 : List Seen, l1.Perm l ∧ RowIs w' g l1 ∧ w.grownBy w' (some g) ∧
      ∀ x : Seen, x ∈ l.take 20 → (∀ y ∈ l, y = x ∨ x.far < y.far) → l1.head? = some x) := by
    subst hl
    refine Lib.hid ?_
    have := stable_calls encSeen cfNear 39 #[] g 0 c l.toArray w (enters_of Tryz.func39 (by kernel_rfl) rfl) (near_lays g 0 l.toArray.size w) swo_near ⟨encSeen_len, encSeen_one, hR, hg⟩ (by simpa using h38)
    simp only [List.size_toArray] at this
    refine this.mono ?_
    rintro e w' ⟨rfl, d', hp, hs, hf⟩
    have hp2 := perm_list (by simpa using hp)
    refine ⟨rfl, d'.toList, hp2.1, ?_, ?_, ?_⟩
    · have := hs.holds hg hR (by simpa using hp2.2)
      unfold RowIs
      simpa using this
    · obtain ⟨m, os, rfl⟩ := hs
      exact sorted_grown _ _ _ _ _ _ _ _
    · intro x hx hy
      obtain ⟨j, hj, hxj⟩ := List.mem_iff_getElem.1 hx
      have hj2 : j < l.length ∧ j < 20 := by rw [List.length_take] at hj; omega
      have hh := hf x j hj2.1 hj2.2 (by
        rw [List.getElem_take] at hxj
        simp [hj2.1, hxj]) (fun i hi => by
        have hi2 : i < l.length := by simpa using hi
        have := hy l[i] (List.getElem_mem hi2)
        have e : l.toArray[i]! = l[i] := by simp [hi2]
        rw [e]
        rcases this with h | h
        · exact .inl h
        · exact .inr ((cfNear_neg _ _).2 (.inl h)))
      have hpos : 0 < d'.size := by rw [hp2.2]; omega
      rw [← hh]
      cases hd : d'.toList with
      | nil => simp at hd; rw [hd] at hpos; simp at hpos
      | cons y r =>
        have : d' = (y :: r).toArray := by rw [← hd]
        rw [this]
        simp
  clear h hR hg
  go_enter Tryz.func38, Tryz.ntmps38
  go_wp2_with fail
  refine HS.out.mono ?_
  rintro e w' ⟨rfl, hq⟩
  have HQ := Lib.hid hq
  clear hq
  go_wp2_with fail
  go_end0
  exact ⟨rfl, HQ.out⟩

/-- **slices.SortFunc**, by place. -/
theorem sort43_calls (c g : Nat) (l : List Seen) (w : World) (h : RowIs w g l) (hg : g < w.heap.size) (hl : l.length ≤ 1000000) :
    Calls Tryz.prog 43 #[.slice (some ⟨g, 0, none⟩) l.length c, .func (.func 44) #[] #[]] w fun e w' => e = .returned (.tuple #[]) ∧ ∃ l2 : List Seen, l2.Perm l ∧ l2.Pairwise (fun a b => ¬ b.place < a.place) ∧ RowIs w' g l2 ∧ w.grownBy w' (some g) := by
  have := AnyQ.slices_SortFunc (P := Tryz.prog) (ρ := Tryz.sortSeen_ren) Tryz.sortSeen 4 Tryz.isAgg97 Tryz.sizeOf97 encSeen encSeen_len encSeen_one cfPlace swo_place 44 #[] g 0 c l.toArray w (enters_of Tryz.func44 (by kernel_rfl) rfl) (place_lays g 0 l.toArray.size w) h hg (by simp; omega)
  simp only [List.size_toArray] at this
  refine this.mono ?_
  rintro e w' ⟨rfl, d', n, os, hp, hs, rfl⟩
  have hp2 := perm_list (by simpa using hp)
  refine ⟨rfl, d'.toList, hp2.1, ?_, ?_, sorted_grown _ _ _ _ _ _ _ _⟩
  · rw [List.pairwise_iff_getElem]
    intro i j hi hj hij hlt
    have h1 := hs i j (Nat.zero_le _) hij (by rw [← hp2.2]; simpa using hj)
    have hi2 : i < d'.size := by simpa using hi
    have hj2 : j < d'.size := by simpa using hj
    have e1 : d'[j]! = d'.toList[j] := by simp [hj2]
    have e2 : d'[i]! = d'.toList[i] := by simp [hi2]
    rw [e1, e2] at h1
    have h3 : ltOf cfPlace d'.toList[j] d'.toList[i] = true := decide_eq_true ((compareInt_neg _ _).2 hlt)
    rw [h3] at h1
    cases h1
  · have := holdsK_sortWorldK encSeen 4 w g 0 n l.toArray d' os hg h (by simpa using hp2.2)
    unfold RowIs
    simpa using this
end Go.Proofs.YtbilegkffooioaaGreatDoor
/-
  view.Sees: what lies in memory while it runs.
-/
namespace Go.Proofs.YtbilegkffooioaaGreatDoor
open Go.RowKit

theorem own_slice {w : World} {base n sz : Nat} {e : TypeId} {v : Value} {xs : List Value} (h : w.ownsRow base e sz v n xs) : ∃ A c, v = .slice A n c := by
  rcases h.2 with ⟨hv, h0⟩ | ⟨g, cap, cur, hv, _⟩
  · subst h0; exact ⟨none, 0, hv⟩
  · exact ⟨_, cap, hv⟩
theorem all_place {F : V3 → V3 → Int} {id : Int} {mi : Nat} {mp : V3} {ps : List Pl} {ss : List Sh} {n m : Nat} {x : Seen} (h : x ∈ plsSeen F mi mp ps n ++ shsSeen F id mp ss m) :
    (x.sort = 0 ∧ ∃ q : Nat, x.place = (q : Int) ∧ q < n) ∨ (x.sort = 1 ∧ ∃ q : Nat, x.place = (q : Int) ∧ q < m) := by
  rcases List.mem_append.1 h with h | h
  · obtain ⟨i, hi, hx⟩ := List.mem_flatMap.1 h
    exact .inl ⟨plSeen_sort i _ x hx, i, (plSeen_one i _).1 x hx, List.mem_range.1 hi⟩
  · obtain ⟨i, hi, hx⟩ := List.mem_flatMap.1 h
    exact .inr ⟨shSeen_sort i _ x hx, i, (shSeen_one i _).1 x hx, List.mem_range.1 hi⟩
theorem outPl_take (ps : List Pl) (l : List Seen) (i : Nat) (x : Seen) (h : l[i]? = some x) : outPl ps (l.take (i + 1)) = outPl ps (l.take i) ++ (if x.sort = 0 then [ps[x.place.toNat]!] else []) := by
  unfold outPl
  rw [List.take_add_one, h, List.filter_append, List.map_append]
  congr 1
  by_cases hx : x.sort = 0
  · simp [isPl, hx]
  · simp [isPl, hx]
theorem outSh_take (ss : List Sh) (l : List Seen) (i : Nat) (x : Seen) (h : l[i]? = some x) : outSh ss (l.take (i + 1)) = outSh ss (l.take i) ++ (if x.sort = 0 then [] else [ss[x.place.toNat]!]) := by
  unfold outSh
  rw [List.take_add_one, h, List.filter_append, List.map_append]
  congr 1
  by_cases hx : x.sort = 0
  · have h1 : isSh x = false := by unfold isSh; rw [hx]; rfl
    simp [h1, hx]
  · have h1 : isSh x = true := by unfold isSh; simpa using hx
    simp [h1, hx]
theorem outPl_le (ps : List Pl) (l : List Seen) (i : Nat) : (outPl ps (l.take i)).length ≤ i := by
  unfold outPl
  rw [List.length_map]
  exact Nat.le_trans (List.length_filter_le _ _) (by rw [List.length_take]; omega)
theorem outSh_le (ss : List Sh) (l : List Seen) (i : Nat) : (outSh ss (l.take i)).length ≤ i := by
  unfold outSh
  rw [List.length_map]
  exact Nat.le_trans (List.length_filter_le _ _) (by rw [List.length_take]; omega)
/-- What the telling reads, of a player. -/
theorem out_keep {wr1 W : World} {r : Option Nat} (hg : wr1.grownBy W r) {b6 b4 bx b o i : Nat} {s1 spv q : Value} {p : Pl} (h6 : wr1.cell? ⟨b6, 0, none⟩ = some s1) (h4 : wr1.cell? ⟨b4, i, none⟩ = some spv) (hx : wr1.cell? ⟨bx, 3, none⟩ = some q) (hp : wr1.rangeAt b o p.cl)
    (n6 : some b6 ≠ r) (n4 : some b4 ≠ r) (nx : some bx ≠ r) (nb : some b ≠ r) : W.cell? ⟨b6, 0, none⟩ = some s1 ∧ W.cell? ⟨b4, i, none⟩ = some spv ∧ W.cell? ⟨bx, 3, none⟩ = some q ∧
    W.cell? ⟨b, o, none⟩ = some (.int .i64 p.id) ∧ W.cell? ⟨b, o + 1, none⟩ = some (.int .i64 p.px) ∧ W.cell? ⟨b, o + 2, none⟩ = some (.int .i64 p.py) ∧ W.cell? ⟨b, o + 3, none⟩ = some (.int .i64 p.pz) ∧
    W.cell? ⟨b, o + 4, none⟩ = some (.int .i64 p.vx) ∧ W.cell? ⟨b, o + 5, none⟩ = some (.int .i64 p.vy) ∧ W.cell? ⟨b, o + 6, none⟩ = some (.int .i64 p.vz) ∧ W.cell? ⟨b, o + 7, none⟩ = some (.bool p.ground) ∧ W.cell? ⟨b, o + 8, none⟩ = some (.int .i64 p.health) ∧
    W.cell? ⟨b, o + 9, none⟩ = some (.int .i64 p.armour) ∧ W.cell? ⟨b, o + 10, none⟩ = some (.int .i64 p.score) ∧ W.cell? ⟨b, o + 11, none⟩ = some (.int .i64 p.a0) ∧ W.cell? ⟨b, o + 12, none⟩ = some (.int .i64 p.a1) ∧ W.cell? ⟨b, o + 13, none⟩ = some (.int .i64 p.wait) ∧ W.cell? ⟨b, o + 14, none⟩ = some (.int .i64 p.dead) := by
  have kk : ∀ (k i : Nat) (u : Value), some k ≠ r → wr1.cell? ⟨k, i, none⟩ = some u → W.cell? ⟨k, i, none⟩ = some u := fun k i u hr hu => grown_at hg k i u hu (World.block_lt_of_cell? wr1 _ hu) hr
  have hp2 : W.rangeAt b o p.cl := fun j u hu => kk _ _ _ nb (hp j u hu)
  exact ⟨kk _ _ _ n6 h6, kk _ _ _ n4 h4, kk _ _ _ nx hx, pl_cells hp2⟩
/-- What the telling reads, of a shot. -/
theorem out_keepS {wr1 W : World} {r : Option Nat} (hg : wr1.grownBy W r) {b6 b4 bx b o i : Nat} {s1 spv q : Value} {p : Sh} (h6 : wr1.cell? ⟨b6, 1, none⟩ = some s1) (h4 : wr1.cell? ⟨b4, i, none⟩ = some spv) (hx : wr1.cell? ⟨bx, 3, none⟩ = some q) (hp : wr1.rangeAt b o p.cl)
    (n6 : some b6 ≠ r) (n4 : some b4 ≠ r) (nx : some bx ≠ r) (nb : some b ≠ r) : W.cell? ⟨b6, 1, none⟩ = some s1 ∧ W.cell? ⟨b4, i, none⟩ = some spv ∧ W.cell? ⟨bx, 3, none⟩ = some q ∧
    W.cell? ⟨b, o, none⟩ = some (.int .i64 p.id) ∧ W.cell? ⟨b, o + 1, none⟩ = some (.int .i64 p.owner) ∧ W.cell? ⟨b, o + 2, none⟩ = some (.int .i64 p.kind) ∧ W.cell? ⟨b, o + 3, none⟩ = some (.int .i64 p.px) ∧
    W.cell? ⟨b, o + 4, none⟩ = some (.int .i64 p.py) ∧ W.cell? ⟨b, o + 5, none⟩ = some (.int .i64 p.pz) ∧ W.cell? ⟨b, o + 6, none⟩ = some (.int .i64 p.vx) ∧ W.cell? ⟨b, o + 7, none⟩ = some (.int .i64 p.vy) ∧ W.cell? ⟨b, o + 8, none⟩ = some (.int .i64 p.vz) ∧
    W.cell? ⟨b, o + 9, none⟩ = some (.int .i64 p.fuse) ∧ W.cell? ⟨b, o + 10, none⟩ = some (.bool p.rest) := by
  have kk : ∀ (k i : Nat) (u : Value), some k ≠ r → wr1.cell? ⟨k, i, none⟩ = some u → W.cell? ⟨k, i, none⟩ = some u := fun k i u hr hu => grown_at hg k i u hu (World.block_lt_of_cell? wr1 _ hu) hr
  have hp2 : W.rangeAt b o p.cl := fun j u hu => kk _ _ _ nb (hp j u hu)
  exact ⟨kk _ _ _ n6 h6, kk _ _ _ n4 h4, kk _ _ _ nx hx, sh_cells hp2⟩

/-- While things are gathered. -/
structure SeesSt (w wr : World) (b7 : Nat) (id : Int) (me : Nat) (sp ss v : Value) (L : List Seen) : Prop where
  g : w.grownBy wr none
  bi : Blk wr w.heap.size 3 #[.int .i64 id]
  b4 : Blk wr (w.heap.size + 1) 26 #[sp, ss]
  b6 : Blk wr (w.heap.size + 1 + 1) 26 #[.slice none 0 0, .slice none 0 0]
  b7_ : Blk wr b7 3 #[.int .i64 me]
  b8 : Blk wr (b7 + 1) 95 #[v]
  own : wr.ownsRow (b7 + 1 + 1) 97 4 v L.length (L.flatMap encSeen)
  lo : w.heap.size + 1 + 1 < b7
  hi : b7 + 1 + 1 ≤ wr.heap.size
section
variable {w wr w2 : World} {b7 me : Nat} {id : Int} {sp ss v : Value} {L L' : List Seen}
theorem SeesSt.grown (h : SeesSt w wr b7 id me sp ss v L) (hg : wr.grownBy w2 none) : SeesSt w w2 b7 id me sp ss v L :=
  ⟨h.g.trans hg, h.bi.grown hg (by simp), h.b4.grown hg (by simp), h.b6.grown hg (by simp), h.b7_.grown hg (by simp), h.b8.grown hg (by simp), own_kept h.own hg, h.lo, Nat.le_trans h.hi hg.size⟩
theorem frm_blk {A B : World} {g k : Nat} {r : Option Nat} {t : TypeId} {cs : Array Value} (h : Frm A B g r) (hb : Blk A k t cs) (hg : k ≠ g) (hr : some k ≠ r) : Blk B k t cs := (h.block k hb.lt hg hr).trans hb
theorem SeesSt.add (h : SeesSt w wr b7 id me sp ss v L) (hp : AddPost (b7 + 1 + 1) (b7 + 1) wr v L' w2) : ∃ v', SeesSt w w2 b7 id me sp ss v' L' := by
  obtain ⟨v', h1, h2, h3, h4⟩ := hp
  have hv : ∀ k, k < b7 + 1 + 1 → some k ≠ v.ownBlock := fun k hk e => by have := (h.own.lt _ e.symm).1; omega
  have hlo := h.lo
  have hs := h.g.size
  exact ⟨v', Frm.over h.g h3 (by omega) (fun j e => by have := (h.own.lt _ e).1; omega), frm_blk h3 h.bi (by omega) (hv _ (by omega)), frm_blk h3 h.b4 (by omega) (hv _ (by omega)), frm_blk h3 h.b6 (by omega) (hv _ (by omega)), frm_blk h3 h.b7_ (by omega) (hv _ (by omega)), h1, h2, h.lo, Nat.le_trans h.hi h3.size⟩
end

/-- While things are told. -/
structure OutSt (w wr : World) (base g : Nat) (sp ss s1 s2 : Value) (l : List Seen) (os : List Pl) (oh : List Sh) : Prop where
  gr : w.grownBy wr none
  b4 : Blk wr (w.heap.size + 1) 26 #[sp, ss]
  b6 : Blk wr (w.heap.size + 1 + 1) 26 #[s1, s2]
  row : RowIs wr g l
  o1 : wr.ownsRow base 38 15 s1 os.length (os.flatMap Pl.cl)
  o2 : wr.ownsRow base 40 11 s2 oh.length (oh.flatMap Sh.cl)
  ne : s1.ownBlock = none ∨ s2.ownBlock ≠ s1.ownBlock
  ne' : s2.ownBlock = none ∨ s1.ownBlock ≠ s2.ownBlock
  lo : w.heap.size + 1 + 1 < g
  glo : g < base
  hi : base ≤ wr.heap.size
section
variable {w wr W w4 : World} {base g : Nat} {sp ss s1 s2 : Value} {l : List Seen} {os : List Pl} {oh : List Sh}
theorem RowIs.keep {g : Nat} (h : RowIs wr g l) {r : Option Nat} (hg : wr.grownBy W r) (hl : g < wr.heap.size) (hr : some g ≠ r) : RowIs W g l := fun j hj =>
  ⟨(World.cell?_of_block (a := ⟨g, 0 + j, none⟩) (hg.block g hl hr)).trans (h j hj).1, (by
    have e : W.frozen? ⟨g, 0 + j, none⟩ = wr.frozen? ⟨g, 0 + j, none⟩ := by unfold World.frozen?; rw [hg.block g hl hr]
    rw [e]; exact (h j hj).2)⟩
theorem OutSt.grown (h : OutSt w wr base g sp ss s1 s2 l os oh) (hg : wr.grownBy W none) : OutSt w W base g sp ss s1 s2 l os oh :=
  ⟨h.gr.trans hg, h.b4.grown hg (by simp), h.b6.grown hg (by simp), h.row.keep hg (Nat.lt_of_lt_of_le h.glo h.hi) (by simp), own_kept h.o1 hg, own_kept h.o2 hg, h.ne, h.ne', h.lo, h.glo, Nat.le_trans h.hi hg.size⟩
theorem ne_of_at {a : Value} {s2 : Value} {x : Option Nat} {N : Nat} (h : a.ownBlock = x ∨ a.ownBlock = some N) (hx : s2.ownBlock = none ∨ x ≠ s2.ownBlock) (hn : ∀ k, s2.ownBlock = some k → k < N) : s2.ownBlock = none ∨ a.ownBlock ≠ s2.ownBlock := by
  rcases hx with hx | hx
  · exact .inl hx
  · refine .inr fun e => ?_
    rcases h with h | h
    · exact hx (h.symm.trans e)
    · rw [h] at e; have := hn _ e.symm; omega
theorem own_far {W w4 : World} {base n sz : Nat} {e : TypeId} {v : Value} {xs : List Value} {r : Option Nat} (h : W.ownsRow base e sz v n xs) (hg : W.grownBy w4 r) (hr : v.ownBlock = none ∨ r ≠ v.ownBlock) : w4.ownsRow base e sz v n xs := by
  refine h.kept hg ?_
  rcases hr with hr | hr
  · rw [hr]; cases r <;> simp
  · exact .inr fun e => hr e.symm
/-- A player is told. -/
theorem OutSt.addPl (h : OutSt w W base g sp ss s1 s2 l os oh) {A : Option Addr} {c n : Nat} {p : Pl} (hn : os.length + 1 = n) (h1 : w4.ownsRow base 38 15 (.slice A n c) n ((os ++ [p]).flatMap Pl.cl)) (h2 : W.grownBy w4 s1.ownBlock)
    (h3 : (Value.slice A n c).ownBlock = s1.ownBlock ∨ (Value.slice A n c).ownBlock = some W.heap.size) : OutSt w (w4.setCell ⟨w.heap.size + 1 + 1, 0, none⟩ (.slice A n c)) base g sp ss (.slice A n c) s2 l (os ++ [p]) oh := by
  subst hn
  have hv : ∀ k, k < base → some k ≠ s1.ownBlock := fun k hk e => by have := (h.o1.lt _ e.symm).1; omega
  have hlo := h.lo
  have hgb := h.glo
  have hs := h.gr.size
  have hlen : (os ++ [p]).length = os.length + 1 := by simp
  have hnb : (Value.slice A (os.length + 1) c).ownBlock ≠ some (w.heap.size + 1 + 1) := fun e => by have := (h1.lt _ e).1; omega
  have hn2 : s2.ownBlock ≠ some (w.heap.size + 1 + 1) := fun e => by have := (h.o2.lt _ e).1; omega
  have hsc := World.grownBy_setCell' w4 (w.heap.size + 1 + 1) 0 (.slice A (os.length + 1) c)
  have hne := ne_of_at h3 h.ne' (fun k e => (h.o2.lt _ e).2)
  refine ⟨set_lo (grown_own h.gr h2 (fun k e => by have := (h.o1.lt _ e).1; omega)) (by omega) 0 _, Blk.other (h.b4.grown h2 (hv _ (by omega))) 0 _ (by omega), ((h.b6.grown h2 (hv _ (by omega))).put 0 _).of_ rfl, (h.row.keep h2 (Nat.lt_of_lt_of_le h.glo h.hi) (hv _ h.glo)).keep hsc (Nat.lt_of_lt_of_le (Nat.lt_of_lt_of_le h.glo h.hi) h2.size) ?_, ?_, own_other (own_far h.o2 h2 ?_) hn2 _, ?_, hne, h.lo, h.glo, Nat.le_trans h.hi (Nat.le_trans h2.size hsc.size)⟩
  · intro e; injection e with e
    omega
  · rw [hlen]; exact own_other h1 hnb _
  · rcases h.ne' with e | e
    · exact .inl e
    · exact .inr e
  · rcases hne with e | e
    · by_cases ha : (Value.slice A (os.length + 1) c).ownBlock = none
      · exact .inl ha
      · exact .inr (by rw [e]; exact fun e2 => ha e2.symm)
    · exact .inr (fun e2 => e e2.symm)
/-- A shot is told. -/
theorem OutSt.addSh (h : OutSt w W base g sp ss s1 s2 l os oh) {A : Option Addr} {c n : Nat} {p : Sh} (hn : oh.length + 1 = n) (h1 : w4.ownsRow base 40 11 (.slice A n c) n ((oh ++ [p]).flatMap Sh.cl)) (h2 : W.grownBy w4 s2.ownBlock)
    (h3 : (Value.slice A n c).ownBlock = s2.ownBlock ∨ (Value.slice A n c).ownBlock = some W.heap.size) : OutSt w (w4.setCell ⟨w.heap.size + 1 + 1, 1, none⟩ (.slice A n c)) base g sp ss s1 (.slice A n c) l os (oh ++ [p]) := by
  subst hn
  have hv : ∀ k, k < base → some k ≠ s2.ownBlock := fun k hk e => by have := (h.o2.lt _ e.symm).1; omega
  have hlo := h.lo
  have hgb := h.glo
  have hs := h.gr.size
  have hlen : (oh ++ [p]).length = oh.length + 1 := by simp
  have hnb : (Value.slice A (oh.length + 1) c).ownBlock ≠ some (w.heap.size + 1 + 1) := fun e => by have := (h1.lt _ e).1; omega
  have hn2 : s1.ownBlock ≠ some (w.heap.size + 1 + 1) := fun e => by have := (h.o1.lt _ e).1; omega
  have hsc := World.grownBy_setCell' w4 (w.heap.size + 1 + 1) 1 (.slice A (oh.length + 1) c)
  have hne := ne_of_at h3 h.ne (fun k e => (h.o1.lt _ e).2)
  refine ⟨set_lo (grown_own h.gr h2 (fun k e => by have := (h.o2.lt _ e).1; omega)) (by omega) 1 _, Blk.other (h.b4.grown h2 (hv _ (by omega))) 1 _ (by omega), ((h.b6.grown h2 (hv _ (by omega))).put 1 _).of_ rfl, (h.row.keep h2 (Nat.lt_of_lt_of_le h.glo h.hi) (hv _ h.glo)).keep hsc (Nat.lt_of_lt_of_le (Nat.lt_of_lt_of_le h.glo h.hi) h2.size) ?_, own_other (own_far h.o1 h2 ?_) hn2 _, ?_, hne, ?_, h.lo, h.glo, Nat.le_trans h.hi (Nat.le_trans h2.size hsc.size)⟩
  · intro e; injection e with e
    omega
  · rcases h.ne with e | e
    · exact .inl e
    · exact .inr e
  · rw [hlen]; exact own_other h1 hnb _
  · rcases hne with e | e
    · by_cases ha : (Value.slice A (oh.length + 1) c).ownBlock = none
      · exact .inl ha
      · exact .inr (by rw [e]; exact fun e2 => ha e2.symm)
    · exact .inr (fun e2 => e e2.symm)
end
end Go.Proofs.YtbilegkffooioaaGreatDoor
