import Derived.Test.YtldgldibkibknaaPut
namespace Go.Proofs.Ytldgldibkibknaa
open Go.RowKit

theorem within_calls (x : Int) (w : World) : Calls Try.prog 29 #[.int .i64 x] w fun e w' => e = .returned (.int .i64 (inn x)) ∧ w = w' :=
  (callsIn_wide (n := 3)).1 ((within_in 3 x w).mono fun _ _ h => ⟨h.1, h.2.symm⟩)
theorem put_calls (g N : Nat) (x : Int) (hN : N < 18446744073709551616) (bs : List Bool) (hl : bs.length ≤ 1000000) (v0 : Value) (w : World) (hw : Wr w g bs v0) :
    Calls Try.prog 15 #[.pointer (some ⟨g, 0, none⟩), .int .u64 N, .int .i64 x] w fun e w' => e = .returned (.tuple #[]) ∧
      ∃ v, Wr w' g (bs ++ hb N (inn x)) v ∧ (v.ownBlock = v0.ownBlock ∨ ∀ k, v.ownBlock = some k → w.heap.size ≤ k) ∧ Frm w w' g v0.ownBlock :=
  callsIn_wide.1 (put_in g N x hN bs hl v0 w hw)

theorem rd_new (w : World) : Rd w w.heap.size none 0 [] := ⟨rfl, fun h => absurd h (by decide)⟩

theorem eql_nil_slice (P : Program) (w : World) (t e : TypeId) (a : Option Addr) (l c : Nat) (h : P.underlying t = some (.slice e)) : (binOp .eql t (.slice a l c) (.slice none 0 0)).run P w = .ok (.bool a.isNone) w := by
  simp only [binOp]
  simp [run_equal_slice_nil w t e a l c h]

theorem grown_over {a b c : World} {k : Nat} (h : a.grownBy b none) (j : b.grownBy c (some k)) (hk : a.heap.size ≤ k) : a.grownBy c none :=
  ⟨j.os.trans h.os, j.tape.trans h.tape, j.output.trans h.output, Nat.le_trans h.size j.size, fun i hi _ => (j.block i (Nat.lt_of_lt_of_le hi h.size) (by intro e; injection e with e; omega)).trans (h.block i hi (by simp))⟩

/-- **slices.Clone** of bytes. -/
theorem clone_calls (B n c : Nat) (A : Option Addr) (l : List Nat) (hn : n ≤ 1000000) (w : World) (h : Rd w B A n (l.map bv)) (hB : B ≤ w.heap.size) :
    Calls Try.prog 27 #[.slice A n c] w fun e w' => ∃ A' c', e = .returned (.slice A' n c') ∧ w'.ownsRow w.heap.size 5 1 (.slice A' n c') n (l.map bv) ∧ w.grownBy w' none := by
  rcases A with _ | A
  · have h0 : n = 0 := by
      rcases Nat.eq_zero_or_pos n with h0 | h0
      · exact h0
      · obtain ⟨b, off, e, _⟩ := h.2 h0; cases e
    subst h0
    have hl : l = [] := List.map_eq_nil_iff.1 (List.eq_nil_of_length_eq_zero h.1)
    subst hl
    have kn : ∀ w' : World, (binOp .eql 27 (.slice none 0 c) (.slice none 0 0)).run Try.prog w' = .ok (.bool true) w' := fun w' => eql_nil_slice Try.prog w' 27 5 none 0 c Try.underlying27
    go_enter Try.func27, Try.ntmps27
    go_wp2
    go_ret
    exact ⟨_, _, rfl, World.ownsRow_nil w w.heap.size 5 1, World.grownBy.refl w _⟩
  · have hR : Hid (Rd w B (some A) n (l.map bv)) := Lib.hid h
    clear h
    have kn : ∀ w' : World, (binOp .eql 27 (.slice (some A) n c) (.slice none 0 0)).run Try.prog w' = .ok (.bool false) w' := fun w' => eql_nil_slice Try.prog w' 27 5 (some A) n c Try.underlying27
    go_enter Try.func27, Try.ntmps27
    go_wp2_with (at_builtin; refine wpList_append_rd _ rfl (.tmp 5) (.tmp 6) 27 rfl w.heap.size 5 (.int .u8 0) 1 Try.underlying27 Try.info5 rfl _ 0 [] rfl (World.ownsRow_lit w #[] 0 (Nat.le_refl _) (by decide) rfl) B (some A) n c (l.map bv) rfl (hR.out.keep fun p hp => World.cell?_of_block (Below.heap_alloc w _ _ (by omega))) (bv_one _) n (by omega) _ (List.nil_append _) (by simp only [maxLen]; omega) (by omega) (by simp) ?_; intro A' c' w2 hown hgrow hrd; have H1 := Lib.hid hown; have H2 := Lib.hid hgrow; clear hown hgrow hrd)
    go_ret
    exact ⟨_, _, rfl, H1.out, grown_over (World.grownBy_alloc w _ none) H2.out (Nat.le_refl _)⟩

/-- **Bytes** of a writer. -/
theorem bytes_calls (g : Nat) (bs : List Bool) (hl : bs.length ≤ 1000000) (v : Value) (w : World) (hw : Wr w g bs v) :
    Calls Try.prog 13 #[.pointer (some ⟨g, 0, none⟩)] w fun e w' => ∃ A' c', e = .returned (.slice A' ((bs.length + 7) / 8) c') ∧ w'.ownsRow w.heap.size 5 1 (.slice A' ((bs.length + 7) / 8) c') ((bs.length + 7) / 8) ((pk bs ((bs.length + 7) / 8)).map bv) ∧ w.grownBy w' none := by
  obtain ⟨A, c, rfl, hr⟩ := own_shape hw.row
  have hc := hw.blk.cell 0
  simp only [List.getElem?_toArray, List.getElem?_cons_zero] at hc
  have HR := Lib.hid hr
  clear hr hw
  go_enter Try.func13, Try.ntmps13
  go_wp2_with (go_at_call 27; refine (clone_calls w.heap.size _ c A _ (by omega) w HR.out (Nat.le_refl _)).mono ?_; rintro e w1 ⟨A', c', rfl, h1, h2⟩; have H1 := Lib.hid h1; have H2 := Lib.hid h2; clear h1 h2)
  go_ret
  exact ⟨A', c', rfl, H1.out, H2.out⟩

/-- Block g is a reader of these bytes, at this bit. -/
structure Rr (w : World) (g : Nat) (l : List Nat) (at_ : Nat) : Prop where
  row : ∃ A c, Blk w g 60 #[.slice A l.length c, .int .i64 at_] ∧ Rd w g A l.length (l.map bv)
  small : ∀ x ∈ l, x < 256
  at_le : at_ ≤ 8 * l.length
  len : l.length ≤ 100000

theorem Rr.keep {w w' : World} {g : Nat} {l : List Nat} {a : Nat} (h : Rr w g l a) (hk : ∀ k, k ≤ g → w'.heap[k]? = w.heap[k]?) : Rr w' g l a := by
  obtain ⟨⟨A, c, hb, hr⟩, h2, h3, h4⟩ := h
  exact ⟨⟨A, c, (hk g (Nat.le_refl _)).trans hb, hr.keep fun p hp => World.cell?_of_block (hk _ (by omega))⟩, h2, h3, h4⟩
theorem Rr.lt {w : World} {g : Nat} {l : List Nat} {a : Nat} (h : Rr w g l a) : g < w.heap.size := by
  obtain ⟨⟨A, c, hb, hr⟩, _⟩ := h
  exact hb.lt

/-- **NewReader.** -/
theorem newReader_calls (B n c : Nat) (A : Option Addr) (l : List Nat) (hn : n ≤ 100000) (hx : ∀ x ∈ l, x < 256) (w : World) (h : Rd w B A n (l.map bv)) (hB : B ≤ w.heap.size) :
    Calls Try.prog 16 #[.slice A n c] w fun e w' => ∃ g, e = .returned (.pointer (some ⟨g, 0, none⟩)) ∧ Rr w' g l 0 ∧ w.heap.size ≤ g ∧ w.grownBy w' none := by
  have HR := Lib.hid h
  have hln : l.length = n := by simpa using h.1
  clear h
  go_enter Try.func16, Try.ntmps16
  go_wp2_with (go_at_call 27; refine (clone_calls B n c A l (by omega) w HR.out hB).mono ?_; rintro e w1 ⟨A', c', rfl, h1, h2⟩; have H1 := Lib.hid h1; have H2 := Lib.hid h2; clear h1 h2)
  go_ret
  refine ⟨_, rfl, ⟨⟨A', c', by rw [hln]; exact Blk.new w1 60 _, ?_⟩, hx, by simp, by omega⟩, H2.out.size, only_trans H2.out (World.grownBy_alloc w1 _ none)⟩
  have hr := rd_of_own H1.out
  rw [hln]
  exact hr.keep fun p hp => World.cell?_of_block (Below.heap_alloc w1 _ _ hp)

end Go.Proofs.Ytldgldibkibknaa
