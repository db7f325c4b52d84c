/-
  slices.Delete of the first commands of a row that the call owns.
-/
import Derived.Test.YtehlehfljgphkaaSl
namespace Go.Proofs.Ytehlehfljgphkaa
open Go.RowKit

section
variable {P : Program} {w : World} {α : Type} {cl : α → List Value}
/-- 'append(s[:0], s[n:]...)', s a row of the call's own: it is the row's tail, in its own place. -/
theorem run_append_tail (base : Nat) (t ty e : TypeId) (z : Value) (size bytes : Nat) (hcl : ∀ x, (cl x).length = size) (ht : P.underlying t = some (.slice e)) (hinfo : (P.info? e).map (fun i => (i.zero, i.size, i.bytes)) = some (some z, size, bytes)) (hsz : 0 < size)
    (g len cap : Nat) (xs : List α) (hown : w.ownsRow base e size (.slice (some ⟨g, 0, none⟩) len cap) len (xs.flatMap cl)) (h1 : ∀ u ∈ xs.flatMap cl, u.oneCell' = true)
    (n m c : Nat) (hn : n + m = len) (ad : Addr) (had : 0 < m → ad = ⟨g, n * size, none⟩) :
    ∃ w', (Builtin.append_ #[t, t] ty #[.slice (some ⟨g, 0, none⟩) 0 cap, .slice (some ad) m c]).run P w = .ok (.slice (some ⟨g, 0, none⟩) m cap) w' ∧ w'.ownsRow base e size (.slice (some ⟨g, 0, none⟩) m cap) m ((xs.drop n).flatMap cl) ∧ w.grownBy w' (some g) := by
  obtain ⟨i, hi, hz, hsize, hby⟩ := info_parts hinfo
  have hrg := own_tail hcl hsz hown n (by omega) (some ad) (fun h => by rw [had (by omega)])
  have hm : len - n = m := by omega
  rw [hm] at hrg
  have hlf : ((xs.drop n).flatMap cl).length = m * size := by rw [flat_len hcl, hrg.1]
  have hcells : ∀ j u, ((xs.drop n).flatMap cl)[j]? = some u → w.cell? (ad.add j) = some u := by
    intro j u hu
    rcases Nat.eq_zero_or_pos m with h0 | h0
    · subst h0
      have : ((xs.drop n).flatMap cl) = [] := List.eq_nil_of_length_eq_zero (by simpa using hlf)
      rw [this] at hu; simp at hu
    · obtain ⟨b, off, e1, _, hc⟩ := hrg.2 h0
      injection e1 with e1
      subst e1
      rw [Addr.add_mid]
      exact hc j u hu
  have hone : ∀ u ∈ (xs.drop n).flatMap cl, u.oneCell' = true := fun u hu => h1 u (by
    obtain ⟨x, hx, hu⟩ := List.mem_flatMap.1 hu
    exact List.mem_flatMap.2 ⟨x, List.mem_of_mem_drop hx, hu⟩)
  rcases hown.2 with ⟨hv', _⟩ | ⟨g', cap', cur, hv', hb, hh, hnc, hcm, hs, htk⟩
  · cases hv'
  · injection hv' with e1 e2 e3
    injection e1 with e1
    injection e1 with e1
    subst e1 e3
    have hmc : m * size ≤ cap * size := Nat.mul_le_mul_right _ (by omega)
    have hr := run_append_room (P := P) w t ty e i ht hi g 0 cap cur hh ad m c _ (by rw [hlf, hsize]) hcells hone (by omega) (by rw [hlf, Nat.zero_mul, Nat.zero_add, hs]; exact hmc)
    rw [Nat.zero_add] at hr
    refine ⟨_, hr, ⟨hlf, .inr ⟨g, cap, _, rfl, hb, setRow_heap w g cur _ e _ hh, by omega, hcm, ?_, ?_⟩⟩, ⟨rfl, rfl, rfl, by simp, fun k _ hk => setRow_other w g k _ (fun e => hk (by rw [e]))⟩⟩
    · simp only [List.size_toArray, List.length_append, List.length_take, List.length_drop, Array.length_toList, hlf, hs]
      omega
    · simp only [Nat.zero_mul, List.take_zero, List.nil_append, Nat.zero_add]
      rw [← hlf]
      exact List.take_left
theorem step_append_tail {ops : Array Oper} {o : Oper} {a : Act} {K : Act → World → Prop} {Q : Exit → Act → World → Prop} {E : Prop} (hgd : o.guard = none) (s x : Operand) (t : TypeId)
    (ho : o.op = .call { callee := .builtin .append, args := #[s, x], argTypes := #[t, t] })
    (base : Nat) (e : TypeId) (z : Value) (size bytes : Nat) (hcl : ∀ x, (cl x).length = size) (ht : P.underlying t = some (.slice e)) (hinfo : (P.info? e).map (fun i => (i.zero, i.size, i.bytes)) = some (some z, size, bytes)) (hsz : 0 < size)
    (g len cap : Nat) (xs : List α) (hown : w.ownsRow base e size (.slice (some ⟨g, 0, none⟩) len cap) len (xs.flatMap cl)) (h1 : ∀ u ∈ xs.flatMap cl, u.oneCell' = true)
    (n m c : Nat) (hn : n + m = len) (ad : Addr) (had : 0 < m → ad = ⟨g, n * size, none⟩) (hs : a.eval s = .slice (some ⟨g, 0, none⟩) 0 cap) (hx : a.eval x = .slice (some ad) m c)
    (h : ∀ w', w'.ownsRow base e size (.slice (some ⟨g, 0, none⟩) m cap) m ((xs.drop n).flatMap cl) → w.grownBy w' (some g) → K (a.put o.dst (.slice (some ⟨g, 0, none⟩) m cap)) w') :
    if Region.wanted o (yielded ops a.tmps) = true then Oper.wp P o a w K Q else E := by
  have hw : Region.wanted o (yielded ops a.tmps) = true := by simp [Region.wanted, hgd]
  rw [if_pos hw]
  obtain ⟨w', hrun, h2, h3⟩ := run_append_tail (P := P) base t o.type e z size bytes hcl ht hinfo hsz g len cap xs hown h1 n m c hn ad had
  unfold Oper.wp execOp
  simp only [ho, resolve, invoke, builtin, Sem.run_bind, Sem.run_pure, Result.andThen_ok, List.map_toArray, List.map_cons, List.map_nil, hs, hx, hrun]
  exact h w' h2 h3
end

theorem zero33 (w : World) : (zeroValue 33).run Try.prog w = .ok (.agg #[.int .u16 0, .int .u8 0, .int .i8 0, .int .i8 0, .int .i64 0]) w := by kernel_rfl

theorem undrawn {w w' : World} {r : Option Nat} (h : w.drew.grownBy w' r) : w.grownBy w' r := ⟨h.os, h.tape, h.output, h.size, h.block⟩
set_option maxRecDepth 100000 in
set_option maxHeartbeats 1000000 in
/-- **slices.Delete** of the first n. -/
theorem delete_calls (base g len cap n : Nat) (l : List Cmd) (hl : len ≤ 1000000) (hn : n ≤ len) (hn0 : 0 < n) (w : World) (hown : w.ownsRow base 33 5 (.slice (some ⟨g, 0, none⟩) len cap) len (l.flatMap Cmd.cl)) :
    Calls Try.prog 27 #[.slice (some ⟨g, 0, none⟩) len cap, .int .i64 0, .int .i64 n] w fun e w' => e = .returned (.slice (some ⟨g, 0, none⟩) (len - n) cap) ∧ w'.ownsRow base 33 5 (.slice (some ⟨g, 0, none⟩) (len - n) cap) (len - n) ((l.drop n).flatMap Cmd.cl) ∧ w.grownBy w' (some g) := by
  have HO := Lib.hid hown
  have hcap : len ≤ cap ∧ cap ≤ maxLen := by
    rcases hown.2 with ⟨hv', _⟩ | ⟨g', cap', cur, hv', hb, hh, hnc, hcm, _⟩
    · cases hv'
    · injection hv' with e1 e2 e3
      subst e3
      exact ⟨hnc, hcm⟩
  unfold maxLen at hcap
  obtain ⟨hcap1, hcap2⟩ := hcap
  have hne : (0 == (n : Int)) = false := beq_eq_false_iff_ne.2 (by omega)
  clear hown
  obtain ⟨p, hp⟩ : ∃ p, len - n = p := ⟨_, rfl⟩
  rw [hp]
  have hs1 : p < cap := by omega
  have hs2 : p ≤ len := by omega
  have hs3 : ¬ cap = p := by omega
  have hp2 : (len : Int) - n = p := by omega
  have hp3 : len - p = n := by omega
  rcases Nat.lt_or_ge n cap with hcn | hcn
  · have hcn2 : ¬ cap = n := by omega
    have hcn3 : ¬ n = cap := by omega
    go_enter Try.func27, Try.ntmps27
    go_wp2_with fail
    go_region_law ((refine step_append_tail rfl (.tmp 22) (.tmp 25) 27 rfl base 33 (.agg #[.int .u16 0, .int .u8 0, .int .i8 0, .int .i8 0, .int .i64 0]) 5 16 Cmd.cl_len Try.underlying27 Try.info33 (by decide) g len cap l HO.out (Cmd.one l) n p _ (by omega) _ (fun _ => by first | rfl | simp) rfl rfl ?_; intro w2 h2 h3; have H2 := Lib.hid h2; have H3 := Lib.hid h3; clear h2 h3))
    obtain ⟨w3, hrun, h4, h5⟩ := run_clear_own (P := Try.prog) base 27 33 0 _ 5 Try.underlying27 zero33 rfl (by decide) g p n cap (cap - p) _ H2.out hn0 (by omega)
    have H4 := Lib.hid h4
    have H5 := Lib.hid h5
    clear h4 h5
    go_wp2_with fail
    go_ret
    exact ⟨rfl, H4.out, World.grownBy.trans (undrawn H3.out) H5.out⟩
  · obtain rfl : n = len := by omega
    obtain rfl : n = cap := by omega
    obtain rfl : p = 0 := by omega
    have HO2 : Hid (w.ownsRow base 33 5 (.slice (some ⟨g, 0, none⟩) 0 n) 0 ((l.drop n).flatMap Cmd.cl)) := Lib.hid (by
      have hln : l.length = n := by
        have := HO.out.1
        rw [flat_len Cmd.cl_len] at this
        omega
      rw [List.drop_eq_nil_of_le (by omega)]
      exact own_head HO.out)
    clear hp hp2 hp3
    go_enter Try.func27, Try.ntmps27
    go_wp2_with fail
    go_region
    obtain ⟨w3, hrun, h4, h5⟩ := run_clear_own (P := Try.prog) (w := w.drew) base 27 33 0 _ 5 Try.underlying27 zero33 rfl (by decide) g 0 n n n _ HO2.out hn0 (by omega)
    rw [Nat.zero_mul] at hrun
    have H4 := Lib.hid h4
    have H5 := Lib.hid h5
    clear h4 h5
    go_wp2_with fail
    go_ret
    exact ⟨rfl, H4.out, undrawn H5.out⟩
end Go.Proofs.Ytehlehfljgphkaa
