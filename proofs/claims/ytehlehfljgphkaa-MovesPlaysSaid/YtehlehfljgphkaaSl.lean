/-
  The functions of package slices at commands, each walked once: Clone, IndexFunc over the ack's closure, Delete from the head.
-/
import Derived.Test.YtehlehfljgphkaaRow
namespace Go.Proofs.Ytehlehfljgphkaa
open Go.RowKit

theorem eql_nil_slice (P : Program) (w : World) (t e : TypeId) (a : Option Addr) (l c : Nat) (h : P.underlying t = some (.slice e)) : (binOp .eql t (.slice a l c) (.slice none 0 0)).run P w = .ok (.bool a.isNone) w := by
  simp only [binOp]
  simp [run_equal_slice_nil w t e a l c h]
theorem grown_over {a b c : World} {k : Nat} (h : a.grownBy b none) (j : b.grownBy c (some k)) (hk : a.heap.size ≤ k) : a.grownBy c none :=
  ⟨j.os.trans h.os, j.tape.trans h.tape, j.output.trans h.output, Nat.le_trans h.size j.size, fun i hi _ => (j.block i (Nat.lt_of_lt_of_le hi h.size) (by intro e; injection e with e; omega)).trans (h.block i hi (by simp))⟩

set_option maxHeartbeats 400000 in
/-- **slices.Clone** of commands. -/
theorem clone_calls (B n c : Nat) (A : Option Addr) (l : List Cmd) (hn : n ≤ 1000000) (w : World) (h : Rc w B A n l) (hB : B ≤ w.heap.size) :
    Calls Try.prog 30 #[.slice A n c] w fun e w' => ∃ A' c', e = .returned (.slice A' n c') ∧ w'.ownsRow w.heap.size 33 5 (.slice A' n c') n (l.flatMap Cmd.cl) ∧ w.grownBy w' none := by
  rcases A with _ | A
  · have h0 : n = 0 := by
      rcases Nat.eq_zero_or_pos n with h0 | h0
      · exact h0
      · obtain ⟨b, off, e, _⟩ := h.2 h0; cases e
    subst h0
    have hl : l = [] := List.eq_nil_of_length_eq_zero h.1
    subst hl
    have kn : ∀ w' : World, (binOp .eql 27 (.slice none 0 c) (.slice none 0 0)).run Try.prog w' = .ok (.bool true) w' := fun w' => eql_nil_slice Try.prog w' 27 33 none 0 c Try.underlying27
    go_enter Try.func30, Try.ntmps30
    go_wp2
    go_ret
    exact ⟨_, _, rfl, World.ownsRow_nil w w.heap.size 33 5, World.grownBy.refl w _⟩
  · have hR : Hid (Rc w B (some A) n l) := Lib.hid h
    clear h
    have kn : ∀ w' : World, (binOp .eql 27 (.slice (some A) n c) (.slice none 0 0)).run Try.prog w' = .ok (.bool false) w' := fun w' => eql_nil_slice Try.prog w' 27 33 (some A) n c Try.underlying27
    go_enter Try.func30, Try.ntmps30
    go_wp2_with (at_builtin; refine wpList_append_rg rfl (.tmp 5) (.tmp 6) 27 rfl w.heap.size 33 (.agg #[.int .u16 0, .int .u8 0, .int .i8 0, .int .i8 0, .int .i64 0]) 5 16 Cmd.cl_len Try.underlying27 Try.info33 rfl (by decide) _ 0 [] rfl (World.ownsRow_lit w #[] 0 (Nat.le_refl _) (by decide) rfl) B (some A) n c l rfl (hR.out.keep fun p hp => World.cell?_of_block (Below.heap_alloc w _ _ (by omega))) (Cmd.one _) n (by omega) (by simp only [maxLen]; omega) (by omega) (by simp) ?_; intro A' c' w2 hown hgrow hat; have H1 := Lib.hid hown; have H2 := Lib.hid hgrow; clear hown hgrow hat)
    go_ret
    exact ⟨_, _, rfl, H1.out, grown_over (World.grownBy_alloc w _ none) H2.out (Nat.le_refl _)⟩

theorem box_other {w : World} {B : Nat} {v : Value} (hB : w.cell? ⟨B, 0, none⟩ = some v) (o : Obj) : (w.alloc o).cell? ⟨B, 0, none⟩ = some v := Lib.cell?_alloc_some o hB
set_option maxHeartbeats 400000 in
theorem cmd_cells {w : World} {b o : Nat} {s bt dx dy t : Int} (h : w.rangeAt b o (Cmd.cl ⟨s, bt, dx, dy, t⟩)) : w.cell? ⟨b, o, none⟩ = some (.int .u16 s) ∧ w.cell? ⟨b, o + 1, none⟩ = some (.int .u8 bt) ∧ w.cell? ⟨b, o + 2, none⟩ = some (.int .i8 dx) ∧ w.cell? ⟨b, o + 3, none⟩ = some (.int .i8 dy) ∧ w.cell? ⟨b, o + 4, none⟩ = some (.int .i64 t) :=
  ⟨h 0 _ rfl, h 1 _ rfl, h 2 _ rfl, h 3 _ rfl, h 4 _ rfl⟩
/-- The ack's question: is a command newer? -/
theorem ask_calls (s b dx dy t q : Int) (B : Nat) (w : World) (hB : w.cell? ⟨B, 0, none⟩ = some (.int .u16 q)) :
    Calls Try.prog 25 #[.agg #[.int .u16 s, .int .u8 b, .int .i8 dx, .int .i8 dy, .int .i64 t], .pointer (some ⟨B, 0, none⟩)] w fun e w' => e = .returned (.bool (newer s q)) ∧ w.grownBy w' none := by
  have h2 := box_other hB (.cells #[.int .u16 s, .int .u8 b, .int .i8 dx, .int .i8 dy, .int .i64 t] 33)
  go_enter Try.func25, Try.ntmps25
  go_wp2_with (go_at_call 26; refine (newer_calls _ _ _).mono ?_; rintro e w1 ⟨rfl, rfl⟩)
  go_ret
  exact ⟨rfl, World.grownBy_alloc w _ none⟩

/-- How many commands an ack lets go. -/
def ackN (q : Int) (l : List Cmd) : Nat := (l.takeWhile fun c => !newer c.seq q).length
theorem ackN_le (q : Int) (l : List Cmd) : ackN q l ≤ l.length := (List.takeWhile_prefix _).length_le
def idxN (q : Int) (l : List Cmd) : Int := if ackN q l < l.length then (ackN q l : Int) else -1
theorem ackN_at {q : Int} : ∀ {l : List Cmd} {k : Nat} {c : Cmd}, l[k]? = some c → newer c.seq q = true → (∀ (j : Nat) (d : Cmd), j < k → l[j]? = some d → newer d.seq q = false) → ackN q l = k
  | [], k, c, h, _, _ => by simp at h
  | x :: r, 0, c, h, hn, _ => by
    simp at h
    subst h
    simp [ackN, hn]
  | x :: r, k + 1, c, h, hn, hb => by
    have h0 := hb 0 x (by omega) rfl
    have ih := ackN_at (l := r) (k := k) (c := c) (by simpa using h) hn (fun j d hj hd => hb (j + 1) d (by omega) (by simpa using hd))
    unfold ackN at ih ⊢
    simp [h0, ih]
theorem ackN_all {q : Int} : ∀ {l : List Cmd}, (∀ (j : Nat) (d : Cmd), l[j]? = some d → newer d.seq q = false) → ackN q l = l.length
  | [], _ => rfl
  | x :: r, hb => by
    have h0 := hb 0 x rfl
    have ih := ackN_all (l := r) (fun j d hd => hb (j + 1) d (by simpa using hd))
    unfold ackN at ih ⊢
    simp [h0, ih]

set_option maxHeartbeats 1000000 in
/-- **slices.IndexFunc** over the ack's question. -/
theorem index_calls (D n c B : Nat) (A : Option Addr) (l : List Cmd) (q : Int) (hn : n ≤ 1000000) (w : World) (h : Rc w D A n l) (hD : D ≤ w.heap.size) (hB : w.cell? ⟨B, 0, none⟩ = some (.int .u16 q)) :
    Calls Try.prog 24 #[.slice A n c, .func (.func 25) #[] #[.pointer (some ⟨B, 0, none⟩)]] w fun e w' => e = .returned (.int .i64 (idxN q l)) ∧ w.grownBy w' none := by
  have HR := Lib.hid h
  have HB := Lib.hid hB
  clear h hB
  go_enter Try.func24, Try.ntmps24
  go_wp2_with fail
  go_loopw [8] (fun i wr => ∃ k : Nat, k ≤ n ∧ i = .int .i64 k ∧ Hid (w.grownBy wr none) ∧ Hid (∀ (j : Nat) (d : Cmd), j < k → l[j]? = some d → newer d.seq q = false)) (fun i _ => n - (intOf i).toNat)
  case atStart => exact ⟨0, by omega, rfl, Lib.hid (World.grownBy.refl w none), Lib.hid (fun j d hj => absurd hj (by omega))⟩
  case round =>
    obtain ⟨k, hk, rfl, HG, HN⟩ := hrel
    by_cases hlt : k < n
    · obtain ⟨b, off, x, rfl, hb, hx, hr⟩ := (HR.out.grown HG.out hD (by simp)).at_ Cmd.cl_len hlt
      have hbx := HG.out.cell HB.out (by simp)
      have HX := Lib.hid hx
      obtain ⟨s, bt, dx, dy, t⟩ := x
      obtain ⟨c0, c1, c2, c3, c4⟩ := cmd_cells hr
      have HA := Lib.hid (ask_calls s bt dx dy t q B wr hbx)
      clear hr hb hx hbx
      rcases hnw : newer s q with _ | _
      · have HW := Lib.hid hnw
        rw [hnw] at HA
        clear hnw
        go_wp2_with (go_at_call 25; refine HA.out.mono ?_; rintro e w1 ⟨rfl, h1⟩; have H1 := Lib.hid h1; clear h1)
        go_roundw
        case rel => exact ⟨k + 1, by omega, by go_num, Lib.hid (only_trans HG.out H1.out), Lib.hid (fun j d hj hd => by
          rcases Nat.lt_or_ge j k with h | h
          · exact HN.out j d h hd
          · obtain rfl : j = k := by omega
            rw [HX.out] at hd
            injection hd with hd
            subst hd
            exact HW.out)⟩
        case measure => simp [intOf]; omega
      · have HK : Hid (ackN q l = k) := Lib.hid (ackN_at HX.out hnw HN.out)
        rw [hnw] at HA
        clear hnw
        go_wp2_with (go_at_call 25; refine HA.out.mono ?_; rintro e w1 ⟨rfl, h1⟩; have H1 := Lib.hid h1; clear h1)
        go_ret
        exact ⟨ret_i64 (by unfold idxN; rw [HK.out, if_pos (by rw [HR.out.1]; exact hlt)]), only_trans HG.out H1.out⟩
    · obtain rfl : k = n := by omega
      have HK : Hid (ackN q l = k) := Lib.hid (by rw [← HR.out.1]; exact ackN_all fun j d hd => HN.out j d (by rw [← HR.out.1]; exact (List.getElem?_eq_some_iff.1 hd).1) hd)
      go_wp2_with fail
      go_ret
      exact ⟨ret_i64 (by unfold idxN; rw [HK.out, HR.out.1, if_neg (by omega)]), HG.out⟩
end Go.Proofs.Ytehlehfljgphkaa
