/-
  What must be in any case (package embrasurelaw17), walked.
-/
import Derived.Test.YtehlehfljgphkaaStep
import Derived.Test.YtehlehfljgphkaaComb2
namespace Go.Proofs.Ytehlehfljgphkaa
open Go.RowKit

theorem Blk.frm {w w' : World} {k g : Nat} {r : Option Nat} {t : TypeId} {cs : Array Value} (h : Blk w k t cs) (f : Frm w w' g r) (hk : k ≠ g) (hr : some k ≠ r) : Blk w' k t cs := (f.block k h.lt hk hr).trans h
theorem cm_cells {w : World} {k : Nat} {s b dx dy t : Int} (h : Blk w k 33 #[.int .u16 s, .int .u8 b, .int .i8 dx, .int .i8 dy, .int .i64 t]) : w.cell? ⟨k, 0, none⟩ = some (.int .u16 s) ∧ w.cell? ⟨k, 1, none⟩ = some (.int .u8 b) ∧ w.cell? ⟨k, 2, none⟩ = some (.int .i8 dx) ∧ w.cell? ⟨k, 3, none⟩ = some (.int .i8 dy) ∧ w.cell? ⟨k, 4, none⟩ = some (.int .i64 t) :=
  ⟨h.cell 0, h.cell 1, h.cell 2, h.cell 3, h.cell 4⟩
/-- Moves that the call has made since w0. -/
structure Own (w0 w : World) (g : Nat) (l : List Cmd) (s : Bool) (last : Int) (v : Value) : Prop where
  grown : w0.grownBy w none
  ge : w0.heap.size ≤ g
  mv : Mv w g l s last v
theorem Own.frm {w0 w w' : World} {g : Nat} {l l' : List Cmd} {s s' : Bool} {last last' : Int} {v v' : Value} (h : Own w0 w g l s last v) (f : Frm w w' g v.ownBlock) (h' : Mv w' g l' s' last' v') : Own w0 w' g l' s' last' v' :=
  ⟨f.over h.grown h.ge (fun j e => by have := (h.mv.row_lt j e).2; have := h.ge; omega), h.ge, h'⟩
theorem Own.grown_ {w0 w w' : World} {g : Nat} {l : List Cmd} {s : Bool} {last : Int} {v : Value} (h : Own w0 w g l s last v) (k : w.grownBy w' none) : Own w0 w' g l s last v :=
  ⟨only_trans h.grown k, h.ge, h.mv.grown k⟩
/-- A block between the Moves and its row stays over what Moves does. -/
def Besides (w : World) (k g : Nat) (v : Value) (t : TypeId) (cs : Array Value) : Prop := Blk w k t cs ∧ k ≠ g ∧ v.ownBlock ≠ some k
theorem Besides.frm {w w' : World} {k g : Nat} {v v' : Value} {t : TypeId} {cs : Array Value} (h : Besides w k g v t cs) (f : Frm w w' g v.ownBlock) (hv : v'.ownBlock = v.ownBlock ∨ ∀ j, v'.ownBlock = some j → w.heap.size ≤ j) : Besides w' k g v' t cs := by
  refine ⟨h.1.frm f h.2.1 (fun e => h.2.2 e.symm), h.2.1, fun e => ?_⟩
  rcases hv with hv | hv
  · exact h.2.2 (hv ▸ e)
  · have := hv k e
    have := h.1.lt
    omega
theorem Besides.grown {w w' : World} {k g : Nat} {v : Value} {t : TypeId} {cs : Array Value} (h : Besides w k g v t cs) (f : w.grownBy w' none) : Besides w' k g v t cs := ⟨h.1.grown f (by simp), h.2⟩

set_option maxRecDepth 100000 in
set_option maxHeartbeats 4000000 in
theorem shown_calls (w : World) : Calls Try.prog 10 #[] w fun e w' => e = .returned (.bool true) ∧ w.grownBy w' none := by
  go_enter Try.func10, Try.ntmps10
  go_wp2_with fail
  refine (new_calls w).mono ?_
  rintro e w1 ⟨rfl, rfl⟩
  go_wp2_with fail
  have hO2 : Own w (((w.alloc (.cells #[.slice none 0 0, .bool false, .int .u16 0] 64)).alloc (.cells #[.int .u16 65535, .int .u8 0, .int .i8 0, .int .i8 0, .int .i64 3] 33)).alloc (.cells #[.int .u16 0, .int .u8 0, .int .i8 0, .int .i8 0, .int .i64 5] 33)) w.heap.size [] false 0 (.slice none 0 0) :=
    ⟨by repeat (first | exact World.grownBy.refl _ _ | refine only_trans ?_ (World.grownBy_alloc _ _ none)), Nat.le_refl _, ((Mv.new w).grown (World.grownBy_alloc _ _ _)).grown (World.grownBy_alloc _ _ _)⟩
  have hA2 : Besides (((w.alloc (.cells #[.slice none 0 0, .bool false, .int .u16 0] 64)).alloc (.cells #[.int .u16 65535, .int .u8 0, .int .i8 0, .int .i8 0, .int .i64 3] 33)).alloc (.cells #[.int .u16 0, .int .u8 0, .int .i8 0, .int .i8 0, .int .i64 5] 33)) (w.heap.size + 1) w.heap.size (.slice none 0 0) 33 #[.int .u16 65535, .int .u8 0, .int .i8 0, .int .i8 0, .int .i64 3] :=
    ⟨by
      have := (Blk.new (w.alloc (.cells #[.slice none 0 0, .bool false, .int .u16 0] 64)) 33 #[.int .u16 65535, .int .u8 0, .int .i8 0, .int .i8 0, .int .i64 3]).alloc (.cells #[.int .u16 0, .int .u8 0, .int .i8 0, .int .i8 0, .int .i64 5] 33)
      rwa [World.size_alloc] at this, by omega, by simp [Value.ownBlock]⟩
  have hB2 : Besides (((w.alloc (.cells #[.slice none 0 0, .bool false, .int .u16 0] 64)).alloc (.cells #[.int .u16 65535, .int .u8 0, .int .i8 0, .int .i8 0, .int .i64 3] 33)).alloc (.cells #[.int .u16 0, .int .u8 0, .int .i8 0, .int .i8 0, .int .i64 5] 33)) (w.heap.size + 1 + 1) w.heap.size (.slice none 0 0) 33 #[.int .u16 0, .int .u8 0, .int .i8 0, .int .i8 0, .int .i64 5] :=
    ⟨by
      have := Blk.new ((w.alloc (.cells #[.slice none 0 0, .bool false, .int .u16 0] 64)).alloc (.cells #[.int .u16 65535, .int .u8 0, .int .i8 0, .int .i8 0, .int .i64 3] 33)) 33 #[.int .u16 0, .int .u8 0, .int .i8 0, .int .i8 0, .int .i64 5]
      rwa [World.size_alloc, World.size_alloc] at this, by omega, by simp [Value.ownBlock]⟩
  obtain ⟨w2, hw2⟩ : ∃ w2, (((w.alloc (.cells #[.slice none 0 0, .bool false, .int .u16 0] 64)).alloc (.cells #[.int .u16 65535, .int .u8 0, .int .i8 0, .int .i8 0, .int .i64 3] 33)).alloc (.cells #[.int .u16 0, .int .u8 0, .int .i8 0, .int .i8 0, .int .i64 5] 33)) = w2 := ⟨_, rfl⟩
  rw [hw2] at hO2 hA2 hB2 ⊢
  obtain ⟨g, hg⟩ : ∃ g, w.heap.size = g := ⟨_, rfl⟩
  rw [hg] at hO2 hA2 hB2 ⊢
  have HO2 := Lib.hid hO2
  have HA2 := Lib.hid hA2
  have HB2 := Lib.hid hB2
  clear hw2 hg hO2 hA2 hB2
  refine (add_yes g [] false 0 _ 65535 0 0 0 3 w2 HO2.out.mv (by decide) (by decide) (by decide)).mono ?_
  rintro e w3 ⟨rfl, v3, h3, o3, f3⟩
  have HO3 := Lib.hid (show Own w w3 g [⟨65535, 0, 0, 0, 3⟩] true 65535 v3 from HO2.out.frm f3 h3)
  have HA3 := Lib.hid (HA2.out.frm f3 o3)
  have HB3 := Lib.hid (HB2.out.frm f3 o3)
  obtain ⟨b0, b1, b2, b3, b4⟩ := cm_cells HB3.out.1
  clear h3 o3 f3
  go_wp2_with fail
  clear b0 b1 b2 b3 b4
  refine (add_yes g _ true 65535 v3 0 0 0 0 5 w3 HO3.out.mv (by decide) (by decide) (by decide)).mono ?_
  rintro e w4 ⟨rfl, v4, h4, o4, f4⟩
  have HO4 := Lib.hid (show Own w w4 g [⟨65535, 0, 0, 0, 3⟩, ⟨0, 0, 0, 0, 5⟩] true 0 v4 from HO3.out.frm f4 h4)
  have HA4 := Lib.hid (HA3.out.frm f4 o4)
  have HB4 := Lib.hid (HB3.out.frm f4 o4)
  obtain ⟨a0, a1, a2, a3, a4⟩ := cm_cells HA4.out.1
  clear h4 o4 f4
  go_wp2_with fail
  clear a0 a1 a2 a3 a4
  refine (add_no g _ true 0 v4 65535 0 0 0 3 w4 HO4.out.mv (by decide) (by decide)).mono ?_
  rintro e w5 ⟨rfl, h5⟩
  have ha : addC true 0 [(⟨65535, 0, 0, 0, 3⟩ : Cmd), ⟨0, 0, 0, 0, 5⟩].length ⟨65535, 0, 0, 0, 3⟩ = 7 := by decide
  rw [ha]
  have HO5 := Lib.hid (HO4.out.grown_ h5)
  have HA5 := Lib.hid (HA4.out.grown h5)
  have HB5 := Lib.hid (HB4.out.grown h5)
  obtain ⟨a0, a1, a2, a3, a4⟩ := cm_cells HA5.out.1
  obtain ⟨b0, b1, b2, b3, b4⟩ := cm_cells HB5.out.1
  clear h5 ha
  go_wp2_with fail
  refine (combine_calls 65535 0 0 0 3 0 0 0 0 5 w5).mono ?_
  rintro e w6 ⟨rfl, h6⟩
  have hc1 : comb ⟨65535, 0, 0, 0, 3⟩ ⟨0, 0, 0, 0, 5⟩ = ⟨0, 0, 0, 0, 8⟩ := by unfold comb; rw [if_pos (by decide)]; rfl
  have hc2 : okB ⟨65535, 0, 0, 0, 3⟩ ⟨0, 0, 0, 0, 5⟩ = true := by decide
  rw [hc1, hc2]
  have HO6 := Lib.hid (HO5.out.grown_ h6)
  clear h6 hc1 hc2 a0 a1 a2 a3 a4 b0 b1 b2 b3 b4
  dsimp only [Cmd.val]
  go_wp2_with fail
  have HO7 := Lib.hid (HO6.out.grown_ (World.grownBy_alloc w6 (.cells #[.int .u16 0, .int .u8 0, .int .i8 0, .int .i8 0, .int .i64 8] 33) none))
  have HC7 : Hid (Besides (w6.alloc (.cells #[.int .u16 0, .int .u8 0, .int .i8 0, .int .i8 0, .int .i64 8] 33)) w6.heap.size g v4 33 #[.int .u16 0, .int .u8 0, .int .i8 0, .int .i8 0, .int .i64 8]) :=
    Lib.hid ⟨Blk.new w6 33 _, fun e => by have := HO6.out.mv.blk.lt; omega, fun e => by have := (HO6.out.mv.row_lt _ e).1; omega⟩
  obtain ⟨w7, hw7⟩ : ∃ w7, w6.alloc (.cells #[.int .u16 0, .int .u8 0, .int .i8 0, .int .i8 0, .int .i64 8] 33) = w7 := ⟨_, rfl⟩
  rw [hw7] at HO7 HC7 ⊢
  obtain ⟨kc, hkc⟩ : ∃ kc, w6.heap.size = kc := ⟨_, rfl⟩
  rw [hkc] at HC7 ⊢
  clear hw7 hkc
  refine (acked_calls g _ true 0 65535 v4 (by decide) w7 HO7.out.mv).mono ?_
  rintro e w8 ⟨rfl, v8, h8, o8, f8⟩
  have hk1 : ackN 65535 [(⟨65535, 0, 0, 0, 3⟩ : Cmd), ⟨0, 0, 0, 0, 5⟩] = 1 := by decide
  rw [hk1] at h8 ⊢
  have HO8 := Lib.hid (show Own w w8 g [⟨0, 0, 0, 0, 5⟩] true 0 v8 from HO7.out.frm f8 h8)
  have HC8 := Lib.hid (HC7.out.frm f8 (.inl o8))
  clear h8 o8 f8 hk1
  go_wp2_with fail
  refine (replay18_calls 0 (stepP 0) (step_does 0) g _ true 0 v8 0 0 0 0 (by decide) w8 HO8.out.mv).mono ?_
  rintro e w9 ⟨rfl, h9⟩
  have hp : [(⟨0, 0, 0, 0, 5⟩ : Cmd)].foldl (stepP 0) ⟨0, 0, 0, 0⟩ = ⟨0, 0, 0, 5⟩ := by
    show (⟨stX 0 0 5, stX 0 0 5, stH 0 0, stS 0 0 5⟩ : Pl) = _
    have e1 : stX 0 0 5 = 0 := by decide +kernel
    have e2 : stH 0 0 = 0 := by decide +kernel
    have e3 : stS 0 0 5 = 5 := by decide +kernel
    rw [e1, e2, e3]
  rw [hp]
  have HO9 := Lib.hid (HO8.out.grown_ h9)
  have hC9 := HC8.out.grown h9
  obtain ⟨q0, q1, q2, q3, q4⟩ := cm_cells hC9.1
  have hkc := hC9.1.lt
  clear h9 hp hC9
  dsimp only [Pl.val]
  go_wp2_with fail
  have HO10 := Lib.hid (HO9.out.grown_ (World.grownBy_alloc w9 (.cells (plA 0 0 0 5) 45) none))
  have HP10 : Hid (Besides (w9.alloc (.cells (plA 0 0 0 5) 45)) w9.heap.size g v8 45 (plA 0 0 0 5)) :=
    Lib.hid ⟨Blk.new w9 45 _, fun e => by have := HO9.out.mv.blk.lt; omega, fun e => by have := (HO9.out.mv.row_lt _ e).1; omega⟩
  obtain ⟨w10, hw10⟩ : ∃ w10, w9.alloc (.cells (plA 0 0 0 5) 45) = w10 := ⟨_, rfl⟩
  rw [hw10] at HO10 HP10
  rw [hw10]
  obtain ⟨kp, hkp⟩ : ∃ kp, w9.heap.size = kp := ⟨_, rfl⟩
  rw [hkp] at HP10 ⊢
  clear hw10 hkp q0 q1 q2 q3 q4 hkc
  refine (saved_calls g _ true 0 v8 (by decide) w10 HO10.out.mv).mono ?_
  rintro e w11 ⟨A, c, rfl, _, h11⟩
  have hP11 := HP10.out.grown h11
  have q := hP11.1.cell 10
  simp only [List.getElem?_toArray, List.getElem?_cons_succ, List.getElem?_cons_zero] at q
  have HO11 := Lib.hid (HO10.out.grown_ h11)
  clear h11 hP11
  go_wp2_with fail
  go_ret
  exact ⟨rfl, HO11.out.grown⟩
end Go.Proofs.Ytehlehfljgphkaa
