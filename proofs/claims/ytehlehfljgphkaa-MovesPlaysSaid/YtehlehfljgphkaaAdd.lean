/-
  Moves: Add, where it saves.
-/
import Derived.Test.YtehlehfljgphkaaMv
namespace Go.Proofs.Ytehlehfljgphkaa
open Go.RowKit

theorem cmd_new (w : World) (sq bt dx dy t : Int) (p : Nat) (hp : w.heap.size = p) : Rc (w.alloc (.cells #[.int .u16 sq, .int .u8 bt, .int .i8 dx, .int .i8 dy, .int .i64 t] 33)) (p + 1) (some ⟨p, 0, none⟩) 1 [⟨sq, bt, dx, dy, t⟩] := by
  subst hp
  exact ⟨rfl, fun _ => ⟨w.heap.size, 0, rfl, Nat.lt_succ_self _, fun j u hu => by
    rw [Blk.cell (Blk.new w 33 _)]
    simpa [Cmd.cl] using hu⟩⟩
theorem own_kept {w w' : World} {base n sz : Nat} {e : TypeId} {v : Value} {xs : List Value} (h : w.ownsRow base e sz v n xs) (hg : w.grownBy w' none) : w'.ownsRow base e sz v n xs := h.kept hg (by cases hv : v.ownBlock <;> simp)
theorem only_drew {a w : World} {row : Option Nat} (h : a.grownBy w row) : a.grownBy w.drew row := ⟨h.os, h.tape, h.output, h.size, h.block⟩

theorem Blk.drewN {w : World} {g : Nat} {t : TypeId} {cs : Array Value} (h : Blk w g t cs) (k : Nat) : Blk (w.drewN k) g t cs := h
theorem Blk.drew_ {w : World} {g : Nat} {t : TypeId} {cs : Array Value} (h : Blk w g t cs) : Blk w.drew g t cs := h
/-- What an append onto the row leaves: the block itself stays, so does a box made since. -/
theorem Mv.onto {w W w2 : World} {g : Nat} {l : List Cmd} {s : Bool} {last : Int} {v : Value} (h : Mv w g l s last v) (hW : w.grownBy W none) (h3 : W.grownBy w2 v.ownBlock) {x : Value} (hx : W.cell? ⟨w.heap.size, 0, none⟩ = some x) :
    w2.cell? ⟨g, 0, none⟩ = some v ∧ w2.cell? ⟨g, 1, none⟩ = some (.bool s) ∧ w2.cell? ⟨g, 2, none⟩ = some (.int .u16 last) ∧ w2.frozen? ⟨g, 0, none⟩ = false ∧ w2.frozen? ⟨g, 1, none⟩ = false ∧ w2.frozen? ⟨g, 2, none⟩ = false ∧ w2.cell? ⟨w.heap.size, 0, none⟩ = some x := by
  have hb : Blk w2 g 64 #[v, .bool s, .int .u16 last] := (h.grown hW).blk.grown h3 (fun e => by have := (h.row_lt g e.symm).2; omega)
  refine ⟨hb.cell 0, hb.cell 1, hb.cell 2, hb.free 0, hb.free 1, hb.free 2, h3.cell hx (fun e => by have := (h.row_lt _ e.symm).1; simp at this)⟩
theorem Mv.saved {w W w2 : World} {g : Nat} {l : List Cmd} {s : Bool} {last : Int} {v v' : Value} {c : Cmd} (h : Mv w g l s last v) (hW : w.grownBy W none) (h3 : W.grownBy w2 v.ownBlock) (h2 : w2.ownsRow (g + 1) 33 5 v' (l.length + 1) ((l ++ [c]).flatMap Cmd.cl)) (h4 : v'.ownBlock = v.ownBlock ∨ v'.ownBlock = some W.heap.size) :
    Mv ((((w2.setCell ⟨g, 0, none⟩ v').setCell ⟨g, 1, none⟩ (.bool true)).setCell ⟨g, 2, none⟩ (.int .u16 c.seq)).drew) g (l ++ [c]) true c.seq v' ∧ (v'.ownBlock = v.ownBlock ∨ ∀ k, v'.ownBlock = some k → w.heap.size ≤ k) ∧
      Frm w ((((w2.setCell ⟨g, 0, none⟩ v').setCell ⟨g, 1, none⟩ (.bool true)).setCell ⟨g, 2, none⟩ (.int .u16 c.seq)).drew) g v.ownBlock := by
  have hb : Blk w2 g 64 #[v, .bool s, .int .u16 last] := (h.grown hW).blk.grown h3 (fun e => by have := (h.row_lt g e.symm).2; omega)
  have hg3 : w2.grownBy ((((w2.setCell ⟨g, 0, none⟩ v').setCell ⟨g, 1, none⟩ (.bool true)).setCell ⟨g, 2, none⟩ (.int .u16 c.seq)).drew) (some g) :=
    only_drew (only_put (only_put (World.grownBy_setCell' w2 g 0 v') 1 _) 2 _)
  refine ⟨⟨((((hb.put 0 v').put 1 _).put 2 _).of_ (by simp)).drew_, ?_⟩, ?_, ?_⟩
  · rw [List.length_append]
    exact h2.kept hg3 (.inr (fun e => by have := (h2.lt g e).1; omega))
  · rcases h4 with h4 | h4
    · exact .inl h4
    · exact .inr fun j e => by rw [h4] at e; injection e with e; have := hW.size; omega
  · exact Frm.grown (Frm.grown (Frm.of_none hW) h3 (.inl rfl)) hg3 (.inr (.inl rfl))

set_option maxRecDepth 100000 in
set_option maxHeartbeats 2000000 in
/-- **Add**, where it saves. -/
theorem add_yes (g : Nat) (l : List Cmd) (s : Bool) (last : Int) (v : Value) (sq bt dx dy t : Int) (w : World) (h : Mv w g l s last v) (hl : l.length < 64) (hr : rightB ⟨sq, bt, dx, dy, t⟩ = true) (hn : s = true → newer sq last = true) :
    Calls Try.prog 14 #[.pointer (some ⟨g, 0, none⟩), .agg #[.int .u16 sq, .int .u8 bt, .int .i8 dx, .int .i8 dy, .int .i64 t]] w fun e w' => e = .returned (.int .i64 0) ∧
      ∃ v', Mv w' g (l ++ [⟨sq, bt, dx, dy, t⟩]) true sq v' ∧ (v'.ownBlock = v.ownBlock ∨ ∀ k, v'.ownBlock = some k → w.heap.size ≤ k) ∧ Frm w w' g v.ownBlock := by
  obtain ⟨A, c, rfl⟩ := own_slice h.row
  have c0 := h.blk.cell 0
  have c1 := h.blk.cell 1
  have c2 := h.blk.cell 2
  simp only [List.getElem?_toArray, List.getElem?_cons_zero, List.getElem?_cons_succ] at c0 c1 c2
  have hg := h.blk.lt
  have HM := Lib.hid h
  have hgne : g ≠ w.heap.size := by omega
  have hg1 : g < w.heap.size + 1 := by omega
  have hg2 : g < w.heap.size + 1 + 1 := by omega
  have HRO := Lib.hid h.row
  clear h
  obtain ⟨n, hnn⟩ : ∃ n, l.length = n := ⟨_, rfl⟩
  rw [hnn] at c0 hl HRO HM ⊢
  have hne : ((n : Int) == 64) = false := beq_eq_false_iff_ne.2 (by omega)
  have HN := Lib.hid hnn
  clear hnn
  rcases s with _ | _
  · clear hn
    go_enter Try.func14, Try.ntmps14
    go_wp2_with (go_at_call 29; refine (right_calls _ _ _ _ _ _).mono ?_; rintro e w1 ⟨rfl, rfl⟩)
    go_quiet ((go_at_call 26; exact quiet1 (newer_calls _ _ _)))
    go_wp2_with fail
    go_region_law ((refine step_append_rg rfl (.tmp 35) (.tmp 37) 27 rfl (g + 1) 33 (.agg #[.int .u16 0, .int .u8 0, .int .i8 0, .int .i8 0, .int .i64 0]) 5 16 Cmd.cl_len Try.underlying27 Try.info33 rfl (by decide) (.slice A n c) n l rfl (own_kept HRO.out (by repeat (first | exact World.grownBy.refl _ _ | refine grown_drawn ?_ _ | refine only_trans ?_ (World.grownBy_alloc _ _ none) | refine only_drew ?_))) _ _ 1 1 [⟨sq, bt, dx, dy, t⟩] rfl (cmd_new _ _ _ _ _ _ _ (by simp)) (Cmd.one _) (n + 1) rfl (by unfold maxLen; omega) (by omega) (by simp; omega) ?_; intro A' c' w2 h2 h3 h4; obtain ⟨k0, k1, k2, k3, k4, k5, k6⟩ := HM.out.onto (by repeat (first | exact World.grownBy.refl _ _ | refine grown_drawn ?_ _ | refine only_trans ?_ (World.grownBy_alloc _ _ none) | refine only_drew ?_)) h3 (((((Blk.new w 33 #[.int .u16 sq, .int .u8 bt, .int .i8 dx, .int .i8 dy, .int .i64 t]).alloc _).drewN _).alloc _).cell 0); have HE := Lib.hid (HM.out.saved (by repeat (first | exact World.grownBy.refl _ _ | refine grown_drawn ?_ _ | refine only_trans ?_ (World.grownBy_alloc _ _ none) | refine only_drew ?_)) h3 (by rw [HN.out]; exact h2) h4); clear h2 h3 h4))
    all_goals
      go_wp2_with fail
      go_region
      all_goals
        go_wp2_with fail
        go_ret
        exact ⟨rfl, _, HE.out⟩
  · have hnw := hn rfl
    clear hn
    go_enter Try.func14, Try.ntmps14
    go_wp2_with (go_at_call 29; refine (right_calls _ _ _ _ _ _).mono ?_; rintro e w1 ⟨rfl, rfl⟩)
    go_quiet ((go_at_call 26; exact quiet1 (newer_calls _ _ _)))
    go_wp2_with fail
    go_region_law ((refine step_append_rg rfl (.tmp 35) (.tmp 37) 27 rfl (g + 1) 33 (.agg #[.int .u16 0, .int .u8 0, .int .i8 0, .int .i8 0, .int .i64 0]) 5 16 Cmd.cl_len Try.underlying27 Try.info33 rfl (by decide) (.slice A n c) n l rfl (own_kept HRO.out (by repeat (first | exact World.grownBy.refl _ _ | refine grown_drawn ?_ _ | refine only_trans ?_ (World.grownBy_alloc _ _ none) | refine only_drew ?_))) _ _ 1 1 [⟨sq, bt, dx, dy, t⟩] rfl (cmd_new _ _ _ _ _ _ _ (by simp)) (Cmd.one _) (n + 1) rfl (by unfold maxLen; omega) (by omega) (by simp; omega) ?_; intro A' c' w2 h2 h3 h4; obtain ⟨k0, k1, k2, k3, k4, k5, k6⟩ := HM.out.onto (by repeat (first | exact World.grownBy.refl _ _ | refine grown_drawn ?_ _ | refine only_trans ?_ (World.grownBy_alloc _ _ none) | refine only_drew ?_)) h3 (((((Blk.new w 33 #[.int .u16 sq, .int .u8 bt, .int .i8 dx, .int .i8 dy, .int .i64 t]).alloc _).drewN _).alloc _).cell 0); have HE := Lib.hid (HM.out.saved (by repeat (first | exact World.grownBy.refl _ _ | refine grown_drawn ?_ _ | refine only_trans ?_ (World.grownBy_alloc _ _ none) | refine only_drew ?_)) h3 (by rw [HN.out]; exact h2) h4); clear h2 h3 h4))
    all_goals
      go_wp2_with fail
      go_region
      all_goals
        go_wp2_with fail
        go_ret
        exact ⟨rfl, _, HE.out⟩
end Go.Proofs.Ytehlehfljgphkaa
