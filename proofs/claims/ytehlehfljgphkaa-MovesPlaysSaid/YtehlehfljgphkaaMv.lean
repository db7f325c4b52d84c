/-
  Moves: what lies in memory; New, Add, Saved, Acked, each walked once.
-/
import Derived.Test.YtehlehfljgphkaaDel
namespace Go.Proofs.Ytehlehfljgphkaa
open Go.RowKit

/-- Block g is Moves that has these commands saved; v is their row. -/
structure Mv (w : World) (g : Nat) (l : List Cmd) (s : Bool) (last : Int) (v : Value) : Prop where
  blk : Blk w g 64 #[v, .bool s, .int .u16 last]
  row : w.ownsRow (g + 1) 33 5 v l.length (l.flatMap Cmd.cl)

theorem own_slice {w : World} {base n sz : Nat} {e : TypeId} {v : Value} {xs : List Value} (h : w.ownsRow base e sz v n xs) : ∃ A c, v = .slice A n c := by
  rcases h.2 with ⟨rfl, rfl⟩ | ⟨g, cap, cur, rfl, _⟩
  · exact ⟨none, 0, rfl⟩
  · exact ⟨some ⟨g, 0, none⟩, cap, rfl⟩
theorem own_len (A : Option Addr) (n m c : Nat) : (Value.slice A n c).ownBlock = (Value.slice A m c).ownBlock := by cases A <;> rfl
theorem World.grownBy_setCell' (w : World) (g i : Nat) (u : Value) : w.grownBy (w.setCell ⟨g, i, none⟩ u) (some g) := only_put (World.grownBy.refl w _) i u
theorem Mv.row_lt {w : World} {g : Nat} {l : List Cmd} {s : Bool} {last : Int} {v : Value} (h : Mv w g l s last v) (k : Nat) (e : v.ownBlock = some k) : k < w.heap.size ∧ g < k := by
  have := h.row.lt k e
  exact ⟨this.2, this.1⟩
theorem Mv.grown {A B : World} {g : Nat} {l : List Cmd} {s : Bool} {last : Int} {v : Value} (h : Mv A g l s last v) (hg : A.grownBy B none) : Mv B g l s last v :=
  ⟨h.blk.grown hg (by simp), h.row.kept hg (by cases hv : v.ownBlock <;> simp)⟩
theorem Mv.new (w : World) : Mv (w.alloc (.cells #[.slice none 0 0, .bool false, .int .u16 0] 64)) w.heap.size [] false 0 (.slice none 0 0) :=
  ⟨Blk.new w 64 _, World.ownsRow_nil _ _ _ _⟩

set_option maxHeartbeats 400000 in
/-- **New.** -/
theorem new_calls (w : World) : Calls Try.prog 11 #[] w fun e w' => e = .returned (.pointer (some ⟨w.heap.size, 0, none⟩)) ∧ w.alloc (.cells #[.slice none 0 0, .bool false, .int .u16 0] 64) = w' := by
  go_enter Try.func11, Try.ntmps11
  go_wp2
  go_ret
  exact ⟨rfl, rfl⟩

set_option maxHeartbeats 400000 in
/-- **Saved.** -/
theorem saved_calls (g : Nat) (l : List Cmd) (s : Bool) (last : Int) (v : Value) (hl : l.length ≤ 1000000) (w : World) (h : Mv w g l s last v) :
    Calls Try.prog 16 #[.pointer (some ⟨g, 0, none⟩)] w fun e w' => ∃ A' c', e = .returned (.slice A' l.length c') ∧ w'.ownsRow w.heap.size 33 5 (.slice A' l.length c') l.length (l.flatMap Cmd.cl) ∧ w.grownBy w' none := by
  obtain ⟨A, c, rfl⟩ := own_slice h.row
  have c0 := h.blk.cell 0
  simp only [List.getElem?_toArray, List.getElem?_cons_zero] at c0
  have HC := Lib.hid (clone_calls w.heap.size l.length c A l hl w (own_rg Cmd.cl_len (by decide) h.row) (Nat.le_refl _))
  clear h
  go_enter Try.func16, Try.ntmps16
  go_wp2_with (go_at_call 30; refine HC.out.mono ?_; rintro e w1 ⟨A', c', rfl, h1, h2⟩; have H1 := Lib.hid h1; have H2 := Lib.hid h2; clear h1 h2)
  go_ret
  exact ⟨A', c', rfl, H1.out, H2.out⟩

theorem idx_neg (q : Int) (l : List Cmd) (h : ackN q l < l.length) : idxN q l = (ackN q l : Int) := by unfold idxN; rw [if_pos h]
theorem idx_all (q : Int) (l : List Cmd) (h : ¬ ackN q l < l.length) : idxN q l = -1 := by unfold idxN; rw [if_neg h]

set_option maxHeartbeats 400000 in
/-- **slices.Delete** of none. -/
theorem delete_none (A : Option Addr) (n c : Nat) (hc : n ≤ c) (w : World) :
    Calls Try.prog 27 #[.slice A n c, .int .i64 0, .int .i64 0] w fun e w' => e = .returned (.slice A n c) ∧ w = w' := by
  rcases A with _ | A
  all_goals
    go_enter Try.func27, Try.ntmps27
    go_wp2
    go_ret
    exact ⟨rfl, rfl⟩
/-- **slices.Delete** of the first n, whatever n is. -/
theorem delete_any (base len n c : Nat) (A : Option Addr) (l : List Cmd) (hl : len ≤ 1000000) (hn : n ≤ len) (w : World) (hown : w.ownsRow base 33 5 (.slice A len c) len (l.flatMap Cmd.cl)) :
    Calls Try.prog 27 #[.slice A len c, .int .i64 0, .int .i64 n] w fun e w' => e = .returned (.slice A (len - n) c) ∧ w'.ownsRow base 33 5 (.slice A (len - n) c) (len - n) ((l.drop n).flatMap Cmd.cl) ∧ w.grownBy w' (Value.slice A len c).ownBlock := by
  rcases Nat.eq_zero_or_pos n with rfl | h0
  · have hc : len ≤ c ∧ c ≤ maxLen := by
      rcases hown.2 with ⟨hv', h0⟩ | ⟨g', cap', cur, hv', hb, hh, hnc, hcm, _⟩
      · injection hv' with _ h1 h2
        rw [h2, h0]; decide
      · injection hv' with e1 e2 e3
        subst e3
        exact ⟨hnc, hcm⟩
    refine (delete_none A len c hc.1 w).mono ?_
    rintro e w' ⟨rfl, rfl⟩
    exact ⟨rfl, hown, World.grownBy.refl w _⟩
  · obtain ⟨g, cap, hv, _, _⟩ := hown.form (by omega)
    injection hv with hA _ hc
    subst hA hc
    exact delete_calls base g len c n l hl hn h0 w hown
theorem Frm.of_none {w w' : World} {g : Nat} {r : Option Nat} (h : w.grownBy w' none) : Frm w w' g r := ⟨h.os, h.tape, h.output, h.size, fun k hk _ _ => h.block k hk (by simp)⟩
theorem Frm.of_grown {w w' : World} {g : Nat} {r : Option Nat} (h : w.grownBy w' r) : Frm w w' g r := ⟨h.os, h.tape, h.output, h.size, fun k hk _ hr => h.block k hk hr⟩

set_option maxHeartbeats 2000000 in
/-- **Acked.** -/
theorem acked_calls (g : Nat) (l : List Cmd) (s : Bool) (last q : Int) (v : Value) (hl : l.length ≤ 1000000) (w : World) (h : Mv w g l s last v) :
    Calls Try.prog 12 #[.pointer (some ⟨g, 0, none⟩), .int .u16 q] w fun e w' => e = .returned (.int .i64 (ackN q l : Int)) ∧ ∃ v', Mv w' g (l.drop (ackN q l)) s last v' ∧ v'.ownBlock = v.ownBlock ∧ Frm w w' g v.ownBlock := by
  obtain ⟨A, c, rfl⟩ := own_slice h.row
  have hle := ackN_le q l
  obtain ⟨wb, hwb⟩ : ∃ wb, w.alloc (.cells #[.int .u16 q] 30) = wb := ⟨_, rfl⟩
  have hgb : w.grownBy wb none := by rw [← hwb]; exact World.grownBy_alloc w _ none
  have hbx : wb.cell? ⟨w.heap.size, 0, none⟩ = some (.int .u16 q) := by rw [← hwb]; exact (Blk.new w 30 #[.int .u16 q]).cell 0
  have hMb := h.grown hgb
  have c0 := hMb.blk.cell 0
  simp only [List.getElem?_toArray, List.getElem?_cons_zero] at c0
  have HI := Lib.hid (index_calls wb.heap.size l.length c w.heap.size A l q hl wb (own_rg Cmd.cl_len (by decide) hMb.row) (Nat.le_refl _) hbx)
  have HG := Lib.hid hgb
  have HM := Lib.hid hMb
  have hgl : g < w.heap.size := h.blk.lt
  have hgrow : (Value.slice A l.length c).ownBlock ≠ some g := fun e => by have := (h.row_lt g e).2; omega
  have HR := Lib.hid hgrow
  clear h hMb hgb hbx hgrow
  obtain ⟨n, hn⟩ : ∃ n, ackN q l = n := ⟨_, rfl⟩
  obtain ⟨len, hlen⟩ : ∃ len, l.length = len := ⟨_, rfl⟩
  rw [hn, hlen] at hle
  rw [hlen] at hl HI c0 HM HR
  rw [hn, hlen]
  have fin : ∀ w1 w2 : World, wb.grownBy w1 none → w1.grownBy w2 (Value.slice A len c).ownBlock → w2.ownsRow (g + 1) 33 5 (.slice A (len - n) c) (len - n) ((l.drop n).flatMap Cmd.cl) →
      Mv (w2.setCell ⟨g, 0, none⟩ (.slice A (len - n) c)) g (l.drop n) s last (.slice A (len - n) c) ∧ Frm w (w2.setCell ⟨g, 0, none⟩ (.slice A (len - n) c)) g (Value.slice A len c).ownBlock := by
    intro w1 w2 h1 h2 h3
    have hb2 : Blk w2 g 64 #[.slice A len c, .bool s, .int .u16 last] := (HM.out.grown h1).blk.grown h2 (fun e => HR.out e.symm)
    refine ⟨⟨(hb2.put 0 _).of_ (by simp), ?_⟩, ?_⟩
    · rw [show (l.drop n).length = len - n by rw [List.length_drop, hlen]]
      exact h3.kept (World.grownBy_setCell' _ _ _ _) (.inr (fun e => by have := (h3.lt g e).1; omega))
    · exact Frm.grown (Frm.grown (Frm.of_none (only_trans HG.out h1)) h2 (.inl rfl)) (World.grownBy_setCell' _ _ _ _) (.inr (.inl rfl))
  have HF := Lib.hid fin
  clear fin
  have next : ∀ w1 : World, wb.grownBy w1 none → Calls Try.prog 27 #[.slice A len c, .int .i64 0, .int .i64 n] w1 fun e w' => e = .returned (.slice A (len - n) c) ∧ w'.ownsRow (g + 1) 33 5 (.slice A (len - n) c) (len - n) ((l.drop n).flatMap Cmd.cl) ∧ w1.grownBy w' (Value.slice A len c).ownBlock := fun w1 h1 =>
    delete_any (g + 1) len n c A l hl hle w1 (by have := (HM.out.grown h1).row; rwa [hlen] at this)
  have cells : ∀ w1 : World, wb.grownBy w1 none → w1.cell? ⟨g, 0, none⟩ = some (.slice A len c) := fun w1 h1 => (HM.out.grown h1).blk.cell 0
  have cells2 : ∀ w1 w2 : World, wb.grownBy w1 none → w1.grownBy w2 (Value.slice A len c).ownBlock → w2.cell? ⟨g, 0, none⟩ = some (.slice A len c) ∧ w2.frozen? ⟨g, 0, none⟩ = false := fun w1 w2 h1 h2 => by
    have hb2 : Blk w2 g 64 #[.slice A len c, .bool s, .int .u16 last] := (HM.out.grown h1).blk.grown h2 (fun e => HR.out e.symm)
    exact ⟨hb2.cell 0, hb2.free 0⟩
  have NX := Lib.hid next
  have CL := Lib.hid cells
  have CL2 := Lib.hid cells2
  clear next cells cells2
  obtain ⟨m, hm⟩ : ∃ m, len - n = m := ⟨_, rfl⟩
  rw [hm] at NX HF
  have HLN := Lib.hid hlen
  have HNN := Lib.hid hn
  have HMM := Lib.hid hm
  rcases Nat.lt_or_ge n len with hlt | hge
  · have hidx : idxN q l = (n : Int) := by rw [idx_neg q l (by rw [hn, hlen]; exact hlt), hn]
    rw [hidx] at HI
    clear hn hlen hm hidx
    go_enter Try.func12, Try.ntmps12
    go_wp2_with (go_at_call 24; refine HI.out.mono ?_; rintro e w1 ⟨rfl, h1⟩; have c1 := CL.out w1 h1; have H1 := Lib.hid h1; clear h1)
    refine (NX.out w1 H1.out).mono ?_
    rintro e w2 ⟨rfl, h2, h3⟩
    obtain ⟨c2, f2⟩ := CL2.out w1 w2 H1.out h3
    have HE := Lib.hid (HF.out w1 w2 H1.out h3 h2)
    clear h2 h3
    go_wp2_with fail
    go_ret
    exact ⟨rfl, _, HE.out.1, own_len _ _ _ _, HE.out.2⟩
  · have hidx : idxN q l = -1 := idx_all q l (by rw [hn, hlen]; omega)
    rw [hidx] at HI
    obtain rfl : n = len := by omega
    clear hn hlen hm hidx
    go_enter Try.func12, Try.ntmps12
    go_wp2_with (go_at_call 24; refine HI.out.mono ?_; rintro e w1 ⟨rfl, h1⟩; have c1 := CL.out w1 h1; have H1 := Lib.hid h1; clear h1)
    refine (NX.out w1 H1.out).mono ?_
    rintro e w2 ⟨rfl, h2, h3⟩
    obtain ⟨c2, f2⟩ := CL2.out w1 w2 H1.out h3
    have HE := Lib.hid (HF.out w1 w2 H1.out h3 h2)
    clear h2 h3
    go_wp2_with fail
    go_ret
    exact ⟨rfl, _, HE.out.1, own_len _ _ _ _, HE.out.2⟩

/-- What Add answers. -/
def addC (s : Bool) (last : Int) (n : Nat) (c : Cmd) : Int :=
  if rightB c = true then (if s = true ∧ newer c.seq last = false then 7 else if n = 64 then 5 else 0) else 1

set_option maxRecDepth 100000 in
set_option maxHeartbeats 2000000 in
/-- **Add**, where it refuses. -/
theorem add_no (g : Nat) (l : List Cmd) (s : Bool) (last : Int) (v : Value) (sq bt dx dy t : Int) (w : World) (h : Mv w g l s last v) (hl : l.length ≤ 64) (h0 : addC s last l.length ⟨sq, bt, dx, dy, t⟩ ≠ 0) :
    Calls Try.prog 14 #[.pointer (some ⟨g, 0, none⟩), .agg #[.int .u16 sq, .int .u8 bt, .int .i8 dx, .int .i8 dy, .int .i64 t]] w fun e w' => e = .returned (.int .i64 (addC s last l.length ⟨sq, bt, dx, dy, t⟩)) ∧ w.grownBy w' none := by
  obtain ⟨A, c, rfl⟩ := own_slice h.row
  have c0 := h.blk.cell 0
  have c1 := h.blk.cell 1
  have c2 := h.blk.cell 2
  simp only [List.getElem?_toArray, List.getElem?_cons_zero, List.getElem?_cons_succ] at c0 c1 c2
  have hg := h.blk.lt
  clear h
  obtain ⟨n, hn⟩ : ∃ n, l.length = n := ⟨_, rfl⟩
  rw [hn] at c0 h0 hl ⊢
  clear hn
  have hgne : g ≠ w.heap.size := by omega
  rcases hr : rightB ⟨sq, bt, dx, dy, t⟩ with _ | _
  · have ha : addC s last n ⟨sq, bt, dx, dy, t⟩ = 1 := by unfold addC; rw [hr]; rfl
    rw [ha]
    clear ha h0
    go_enter Try.func14, Try.ntmps14
    go_wp2_with (go_at_call 29; refine (right_calls _ _ _ _ _ _).mono ?_; rintro e w1 ⟨rfl, rfl⟩)
    go_ret
    exact ⟨rfl, only_trans (World.grownBy_alloc _ _ _) (World.grownBy_alloc _ _ _)⟩
  · rcases s with _ | _
    · obtain rfl : n = 64 := by
        rcases Nat.lt_or_ge n 64 with h | h
        · exfalso; apply h0; unfold addC; rw [hr, if_pos rfl, if_neg (by simp), if_neg (by omega)]
        · omega
      have ha : addC false last 64 ⟨sq, bt, dx, dy, t⟩ = 5 := by unfold addC; rw [hr, if_pos rfl, if_neg (by simp), if_pos rfl]
      rw [ha]
      clear ha h0
      go_enter Try.func14, Try.ntmps14
      go_wp2_with (go_at_call 29; refine (right_calls _ _ _ _ _ _).mono ?_; rintro e w1 ⟨rfl, rfl⟩)
      go_quiet ((go_at_call 26; exact quiet1 (newer_calls _ _ _)))
      go_wp2_with fail
      go_ret
      exact ⟨rfl, grown_drawn (only_trans (World.grownBy_alloc _ _ _) (World.grownBy_alloc _ _ _)) _⟩
    · rcases hnw : newer sq last with _ | _
      · have ha : addC true last n ⟨sq, bt, dx, dy, t⟩ = 7 := by unfold addC; rw [hr, if_pos rfl, if_pos ⟨rfl, hnw⟩]
        rw [ha]
        clear ha h0
        go_enter Try.func14, Try.ntmps14
        go_wp2_with (go_at_call 29; refine (right_calls _ _ _ _ _ _).mono ?_; rintro e w1 ⟨rfl, rfl⟩)
        go_quiet ((go_at_call 26; exact quiet1 (newer_calls _ _ _)))
        go_wp2_with fail
        go_ret
        exact ⟨rfl, grown_drawn (only_trans (World.grownBy_alloc _ _ _) (World.grownBy_alloc _ _ _)) _⟩
      · obtain rfl : n = 64 := by
          rcases Nat.lt_or_ge n 64 with h | h
          · exfalso; apply h0; unfold addC; rw [hr, if_pos rfl, if_neg (by simp [hnw]), if_neg (by omega)]
          · omega
        have ha : addC true last 64 ⟨sq, bt, dx, dy, t⟩ = 5 := by unfold addC; rw [hr, if_pos rfl, if_neg (by simp [hnw]), if_pos rfl]
        rw [ha]
        clear ha h0
        go_enter Try.func14, Try.ntmps14
        go_wp2_with (go_at_call 29; refine (right_calls _ _ _ _ _ _).mono ?_; rintro e w1 ⟨rfl, rfl⟩)
        go_quiet ((go_at_call 26; exact quiet1 (newer_calls _ _ _)))
        go_wp2_with fail
        go_ret
        exact ⟨rfl, grown_drawn (only_trans (World.grownBy_alloc _ _ _) (World.grownBy_alloc _ _ _)) _⟩
end Go.Proofs.Ytehlehfljgphkaa
