/-
  The document's Add, walked.
-/
import Derived.Test.YtehlehfljgphkaaRef
namespace Go.Proofs.Ytehlehfljgphkaa
open Go.RowKit

/-- What was ever saved, and the last of it. -/
def Tied (s : Bool) (last : Int) (all : List Cmd) : Prop := (all = [] ∧ s = false) ∨ ∃ pre d, all = pre ++ [d] ∧ s = true ∧ d.seq = last
theorem Tied.snoc (all : List Cmd) (c : Cmd) : Tied true c.seq (all ++ [c]) := .inr ⟨all, c, rfl, rfl, rfl⟩
theorem Rm.two {w : World} {gw : Nat} {l all : List Cmd} {AL AA : Option Addr} (h : Rm w gw l all AL AA) : ∃ cL cA, w.cell? ⟨gw, 0, none⟩ = some (.slice AL l.length cL) ∧ w.cell? ⟨gw, 1, none⟩ = some (.slice AA all.length cA) ∧ w.frozen? ⟨gw, 0, none⟩ = false ∧ w.frozen? ⟨gw, 1, none⟩ = false := by
  obtain ⟨cL, cA, _, _, hb⟩ := h.blk
  exact ⟨cL, cA, hb.cell 0, hb.cell 1, hb.free 0, hb.free 1⟩
theorem quiet0 {P : Program} {f : FuncId} {args : Array Value} {w : World} {v : Value} (h : Calls P f args w fun e w' => e = .returned v ∧ w = w') :
    Calls P f args w fun e w'' => e = .returned v ∧ ∃ m, w'' = w.drewN m :=
  h.mono fun _ _ ⟨he, hm⟩ => ⟨he, 0, hm.symm⟩

set_option maxRecDepth 100000 in
set_option maxHeartbeats 1500000 in
/-- **Add** of the document's, where it is refused. -/
theorem refadd_no (gw : Nat) (l all : List Cmd) (AL AA : Option Addr) (s : Bool) (last : Int) (sq bt dx dy t : Int) (hq : 0 ≤ sq ∧ sq < 65536) (hs : ∀ c ∈ all, 0 ≤ c.seq ∧ c.seq < 65536) (hl : l.length ≤ 64) (ha : all.length ≤ 1000000) (hT : Tied s last all) (w : World) (h : Rm w gw l all AL AA)
    (h0 : addC s last l.length ⟨sq, bt, dx, dy, t⟩ ≠ 0) :
    Calls Try.prog 15 #[.pointer (some ⟨gw, 0, none⟩), .agg #[.int .u16 sq, .int .u8 bt, .int .i8 dx, .int .i8 dy, .int .i64 t]] w fun e w' => e = .returned (.int .i64 (addC s last l.length ⟨sq, bt, dx, dy, t⟩)) ∧ w.grownBy w' none := by
  have HR := Lib.hid h
  obtain ⟨n, hn⟩ : ∃ n, l.length = n := ⟨_, rfl⟩
  obtain ⟨k, hk⟩ : ∃ k, addC s last l.length ⟨sq, bt, dx, dy, t⟩ = k := ⟨_, rfl⟩
  rw [hk] at h0 ⊢
  have HK := Lib.hid hk
  have HN := Lib.hid hn
  have HS := Lib.hid hs
  have HT := Lib.hid hT
  rw [hn] at hl
  clear hn hk h hs hT
  rcases hrt : rightB ⟨sq, bt, dx, dy, t⟩ with _ | _
  · have HK2 : Hid (k = 1) := Lib.hid (by rw [← HK.out]; unfold addC; rw [if_neg (by rw [hrt]; decide)])
    clear h0
    go_enter Try.func15, Try.ntmps15
    go_wp2_with (go_at_call 22; refine (refright_calls _ _ _ _ _ _).mono ?_; rw [hrt]; rintro e w1 ⟨rfl, rfl⟩)
    go_ret
    exact ⟨by rw [HK2.out]; rfl, by repeat (first | exact World.grownBy.refl _ _ | refine only_trans ?_ (World.grownBy_alloc _ _ none))⟩
  · obtain ⟨w2, HW2⟩ : ∃ w2, Hid ((w.alloc (.cells #[.int .u16 sq, .int .u8 bt, .int .i8 dx, .int .i8 dy, .int .i64 t] 33)).alloc (.cells #[.int .u16 sq, .int .u8 bt, .int .i8 dx, .int .i8 dy, .int .i64 t] 33) = w2) := ⟨_, Lib.hid rfl⟩
    have HG2 : Hid (w.grownBy w2 none) := Lib.hid (by rw [← HW2.out]; exact only_trans (World.grownBy_alloc _ _ none) (World.grownBy_alloc _ _ none))
    have HB2 : Hid (Blk w2 w.heap.size 33 #[.int .u16 sq, .int .u8 bt, .int .i8 dx, .int .i8 dy, .int .i64 t]) := Lib.hid (by rw [← HW2.out]; exact (Blk.new _ _ _).alloc _)
    have HR2 := Lib.hid (HR.out.grown HG2.out)
    obtain ⟨m, hm⟩ : ∃ m, all.length = m := ⟨_, rfl⟩
    obtain ⟨cL, cA, c0, c1, _, _⟩ := HR2.out.two
    rw [HN.out] at c0
    rw [hm] at c1 ha
    have HM := Lib.hid hm
    clear hm
    obtain ⟨b0, b1, b2, b3, b4⟩ := cm_cells HB2.out
    rcases HT.out with ⟨rfl, rfl⟩ | ⟨pre, d, rfl, rfl, hd⟩
    · obtain rfl : m = 0 := by have := HM.out; simpa using this.symm
      have HK2 : Hid (n = 64 ∧ k = 5) := Lib.hid (by
        have := HK.out
        unfold addC at this
        rw [if_pos hrt, if_neg (by simp), HN.out] at this
        split at this
        · omega
        · exact absurd this.symm h0)
      obtain ⟨rfl, rfl⟩ := HK2.out
      clear h0
      go_enter Try.func15, Try.ntmps15
      go_wp2_with (go_at_call 22; refine (refright_calls _ _ _ _ _ _).mono ?_; rw [hrt, HW2.out]; rintro e w1 ⟨rfl, rfl⟩)
      go_quiet (fail)
      go_wp2
      go_ret
      exact ⟨rfl, grown_drawn HG2.out _⟩
    · obtain ⟨j, rfl⟩ : ∃ j, m = j + 1 := ⟨pre.length, by have := HM.out; simp at this; omega⟩
      have hpj : pre.length = j := by have := HM.out; simp at this; omega
      obtain ⟨b, off, x, rfl, hbl, hx, hr⟩ := (HR2.out.ra.of_len HM.out).at_ Cmd.cl_len (show j < j + 1 by omega)
      have hxd : x = d := by
        rw [List.getElem?_append_right (by omega), hpj, Nat.sub_self] at hx
        simpa using hx.symm
      subst hxd
      have hdr := HS.out x (by simp)
      obtain ⟨xs, xb, xx, xy, xt⟩ := x
      dsimp only at hd hdr
      subst hd
      obtain ⟨d0, _, _, _, _⟩ := cmd_cells hr
      have hdn := dist_newer sq xs
      have HD := Lib.hid (fun W => refdist_calls sq xs W hq hdr)
      have ej : IntKind.i64.wrap (((j + 1 : Nat) : Int) - 1) = (j : Int) := by rw [IntWalk.i64_in _ (by omega)]; omega
      have ej2 : ((j + 1 : Nat) : Int) - 1 = (j : Int) := by omega
      have ej3 : (((j + 1 : Nat) : Int)) = (j : Int) + 1 := by omega
      have ej4 : IntKind.i64.wrap ((j : Int) + 1 - 1) = (j : Int) := by rw [IntWalk.i64_in _ (by omega)]; omega
      have hj0 : (0 : Int) < (j : Int) + 1 := by omega
      have hj1 : decide ((0 : Int) < (j : Int) + 1) = true := decide_eq_true hj0
      have HKK : Hid ((newer sq xs = false ∧ k = 7) ∨ (newer sq xs = true ∧ n = 64 ∧ k = 5)) := Lib.hid (by
        have := HK.out
        unfold addC at this
        rw [if_pos hrt, HN.out] at this
        dsimp only at this
        rcases hnw : newer sq xs with _ | _
        · rw [if_pos ⟨rfl, hnw⟩] at this; exact .inl ⟨rfl, this.symm⟩
        · rw [if_neg (by rw [hnw]; simp)] at this
          split at this
          · exact .inr ⟨rfl, by assumption, this.symm⟩
          · exact absurd this.symm h0)
      clear hr hbl hx hpj h0
      rcases HKK.out with ⟨hnw, rfl⟩ | ⟨hnw, rfl, rfl⟩
      · rw [hnw] at hdn
        clear hnw ej2 ej3
        go_enter Try.func15, Try.ntmps15
        go_wp2_with (go_at_call 22; refine (refright_calls _ _ _ _ _ _).mono ?_; rw [hrt, HW2.out]; rintro e w1 ⟨rfl, rfl⟩)
        go_quiet ((go_at_call 28; exact quiet1 (HD.out _)))
        go_wp2
        go_ret
        exact ⟨rfl, grown_drawn HG2.out _⟩
      · rw [hnw] at hdn
        clear hnw ej2 ej3
        go_enter Try.func15, Try.ntmps15
        go_wp2_with (go_at_call 22; refine (refright_calls _ _ _ _ _ _).mono ?_; rw [hrt, HW2.out]; rintro e w1 ⟨rfl, rfl⟩)
        go_quiet ((go_at_call 28; exact quiet1 (HD.out _)))
        go_wp2
        go_ret
        exact ⟨rfl, grown_drawn HG2.out _⟩
end Go.Proofs.Ytehlehfljgphkaa
