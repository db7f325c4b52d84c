/-
  A row of structs that the call owns: append at an operation, in a plain region and in one that draws; clear behind it.
-/
import Derived.Test.YtehlehfljgphkaaNum
import Derived.Deep.RegionLaw
namespace Go.Proofs.Ytehlehfljgphkaa
open Go.RowKit

structure Frm (w w' : World) (g : Nat) (r : Option Nat) : Prop where
  os : w'.os = w.os
  tape : w'.tape = w.tape
  output : w'.output = w.output
  size : w.heap.size ≤ w'.heap.size
  block : ∀ k, k < w.heap.size → k ≠ g → some k ≠ r → w'.heap[k]? = w.heap[k]?
section
variable {w w1 w2 : World} {g : Nat} {r r1 : Option Nat}
theorem Frm.refl (w : World) (g : Nat) (r : Option Nat) : Frm w w g r := ⟨rfl, rfl, rfl, Nat.le_refl _, fun _ _ _ _ => rfl⟩
theorem Frm.grown (h : Frm w w1 g r) (k : w1.grownBy w2 r1) (hr : r1 = r ∨ r1 = some g ∨ ∀ j, r1 = some j → w.heap.size ≤ j) : Frm w w2 g r :=
  ⟨k.os.trans h.os, k.tape.trans h.tape, k.output.trans h.output, Nat.le_trans h.size k.size, fun i hi hg hn => (k.block i (Nat.lt_of_lt_of_le hi h.size) (by
    rcases hr with rfl | rfl | hr
    · exact hn
    · intro e; injection e with e; exact hg e
    · intro e; have := hr i e.symm; omega)).trans (h.block i hi hg hn)⟩
theorem Frm.over {a b c : World} (h : a.grownBy b none) (k : Frm b c g r) (hg : a.heap.size ≤ g) (hr : ∀ j, r = some j → a.heap.size ≤ j) : a.grownBy c none :=
  ⟨k.os.trans h.os, k.tape.trans h.tape, k.output.trans h.output, Nat.le_trans h.size k.size, fun i hi _ => (k.block i (Nat.lt_of_lt_of_le hi h.size) (by omega) (fun e => by have := hr i e.symm; omega)).trans (h.block i hi (by simp))⟩
end
theorem grown_drawn {a b : World} {r : Option Nat} (h : a.grownBy b r) (n : Nat) : a.grownBy (b.drewN n) r := ⟨h.os, h.tape, h.output, h.size, h.block⟩
theorem below_grown {a b : World} (h : a.grownBy b none) : Below a.heap.size a b := ⟨h.os, h.tape, h.output, h.size, fun k hk => h.block k hk (by simp)⟩

section
variable {P : Program} {w : World} {α : Type} {cl : α → List Value}
theorem wp_append_rg {o : Oper} {a : Act} {K : Act → World → Prop} {Q : Exit → Act → World → Prop} (s x : Operand) (t : TypeId)
    (ho : o.op = .call { callee := .builtin .append, args := #[s, x], argTypes := #[t, t] })
    (base : Nat) (e : TypeId) (z : Value) (size bytes : Nat) (hcl : ∀ x, (cl x).length = size) (ht : P.underlying t = some (.slice e)) (hinfo : (P.info? e).map (fun i => (i.zero, i.size, i.bytes)) = some (some z, size, bytes)) (hzs : z.cells.size = size) (hsz : 0 < size)
    (v : Value) (n : Nat) (xs : List α) (hs : a.eval s = v) (hown : w.ownsRow base e size v n (xs.flatMap cl))
    (B : Nat) (A : Option Addr) (m c : Nat) (news : List α) (hx : a.eval x = .slice A m c) (hr : Rg size cl w B A m news) (h1 : ∀ u ∈ news.flatMap cl, u.oneCell' = true)
    (N : Nat) (hN : n + m = N) (h63 : N ≤ maxLen) (hbytes : N * bytes ≤ 140737488355328) (hbase : base ≤ w.heap.size)
    (h : ∀ A' c' w', w'.ownsRow base e size (.slice A' N c') N ((xs ++ news).flatMap cl) → w.grownBy w' v.ownBlock → ((Value.slice A' N c').ownBlock = v.ownBlock ∨ (Value.slice A' N c').ownBlock = some w.heap.size) → K (a.put o.dst (.slice A' N c')) w') : o.wp P a w K Q := by
  subst hN
  obtain ⟨A', c', w', hrun, h2, h3, h4⟩ := run_append_rg (P := P) w base t o.type e z size bytes hcl ht hinfo hzs hsz v n (xs.flatMap cl) hown B A m c news hr h1 h63 hbytes hbase
  rw [← List.flatMap_append] at h2
  unfold Oper.wp execOp
  simp only [ho, resolve, invoke, builtin, Sem.run_bind, Sem.run_pure, Result.andThen_ok, List.map_toArray, List.map_cons, List.map_nil, hs, hx, hrun]
  exact h A' c' w' h2 h3 h4
theorem wpList_append_rg {ops : Array Oper} {rest : List Oper} {o : Oper} {a : Act} {Q : Exit → Act → World → Prop} (hgd : o.guard = none) (s x : Operand) (t : TypeId)
    (ho : o.op = .call { callee := .builtin .append, args := #[s, x], argTypes := #[t, t] })
    (base : Nat) (e : TypeId) (z : Value) (size bytes : Nat) (hcl : ∀ x, (cl x).length = size) (ht : P.underlying t = some (.slice e)) (hinfo : (P.info? e).map (fun i => (i.zero, i.size, i.bytes)) = some (some z, size, bytes)) (hzs : z.cells.size = size) (hsz : 0 < size)
    (v : Value) (n : Nat) (xs : List α) (hs : a.eval s = v) (hown : w.ownsRow base e size v n (xs.flatMap cl))
    (B : Nat) (A : Option Addr) (m c : Nat) (news : List α) (hx : a.eval x = .slice A m c) (hr : Rg size cl w B A m news) (h1 : ∀ u ∈ news.flatMap cl, u.oneCell' = true)
    (N : Nat) (hN : n + m = N) (h63 : N ≤ maxLen) (hbytes : N * bytes ≤ 140737488355328) (hbase : base ≤ w.heap.size)
    (h : ∀ A' c' w', w'.ownsRow base e size (.slice A' N c') N ((xs ++ news).flatMap cl) → w.grownBy w' v.ownBlock → ((Value.slice A' N c').ownBlock = v.ownBlock ∨ (Value.slice A' N c').ownBlock = some w.heap.size) → wpList P ops Q rest (a.put o.dst (.slice A' N c')) w') : wpList P ops Q (o :: rest) a w :=
  wpList_plain hgd fun _ hK => wp_append_rg s x t ho base e z size bytes hcl ht hinfo hzs hsz v n xs hs hown B A m c news hx hr h1 N hN h63 hbytes hbase fun A' c' w' h2 h3 h4 => hK _ _ (h A' c' w' h2 h3 h4)
theorem step_append_rg {ops : Array Oper} {o : Oper} {a : Act} {K : Act → World → Prop} {Q : Exit → Act → World → Prop} {E : Prop} (hgd : o.guard = none) (s x : Operand) (t : TypeId)
    (ho : o.op = .call { callee := .builtin .append, args := #[s, x], argTypes := #[t, t] })
    (base : Nat) (e : TypeId) (z : Value) (size bytes : Nat) (hcl : ∀ x, (cl x).length = size) (ht : P.underlying t = some (.slice e)) (hinfo : (P.info? e).map (fun i => (i.zero, i.size, i.bytes)) = some (some z, size, bytes)) (hzs : z.cells.size = size) (hsz : 0 < size)
    (v : Value) (n : Nat) (xs : List α) (hs : a.eval s = v) (hown : w.ownsRow base e size v n (xs.flatMap cl))
    (B : Nat) (A : Option Addr) (m c : Nat) (news : List α) (hx : a.eval x = .slice A m c) (hr : Rg size cl w B A m news) (h1 : ∀ u ∈ news.flatMap cl, u.oneCell' = true)
    (N : Nat) (hN : n + m = N) (h63 : N ≤ maxLen) (hbytes : N * bytes ≤ 140737488355328) (hbase : base ≤ w.heap.size)
    (h : ∀ A' c' w', w'.ownsRow base e size (.slice A' N c') N ((xs ++ news).flatMap cl) → w.grownBy w' v.ownBlock → ((Value.slice A' N c').ownBlock = v.ownBlock ∨ (Value.slice A' N c').ownBlock = some w.heap.size) → K (a.put o.dst (.slice A' N c')) w') :
    if Region.wanted o (yielded ops a.tmps) = true then Oper.wp P o a w K Q else E := by
  have hw : Region.wanted o (yielded ops a.tmps) = true := by simp [Region.wanted, hgd]
  rw [if_pos hw]
  exact wp_append_rg s x t ho base e z size bytes hcl ht hinfo hzs hsz v n xs hs hown B A m c news hx hr h1 N hN h63 hbytes hbase h

/-- The row, cut at its head: nothing of it. -/
theorem own_head {base : Nat} {e : TypeId} {size n cap : Nat} {g : Nat} {xs : List Value} (h : w.ownsRow base e size (.slice (some ⟨g, 0, none⟩) n cap) n xs) : w.ownsRow base e size (.slice (some ⟨g, 0, none⟩) 0 cap) 0 (([] : List α).flatMap cl) := by
  rcases h.2 with ⟨hv, _⟩ | ⟨g', cap', cur, hv, hb, hh, hn, hm, hs, ht⟩
  · cases hv
  · injection hv with h1 h2 h3
    injection h1 with h1
    injection h1 with h1
    subst h1 h3
    exact ⟨by simp, .inr ⟨g, cap, cur, rfl, hb, hh, Nat.zero_le _, hm, hs, by simp⟩⟩
/-- The row's tail. -/
theorem own_tail {base : Nat} {e : TypeId} {size n cap : Nat} {g : Nat} {xs : List α} (hcl : ∀ x, (cl x).length = size) (hsz : 0 < size) (h : w.ownsRow base e size (.slice (some ⟨g, 0, none⟩) n cap) n (xs.flatMap cl)) (k : Nat) (hk : k ≤ n) (A : Option Addr) (hA : k < n → A = some ⟨g, k * size, none⟩) :
    Rg size cl w w.heap.size A (n - k) (xs.drop k) := by
  have hl : xs.length = n := by
    have := h.1
    rw [flat_len hcl] at this
    exact Nat.eq_of_mul_eq_mul_right hsz this
  refine ⟨by rw [List.length_drop, hl], fun h0 => ⟨g, k * size, hA (by omega), (h.lt g rfl).2, fun j u hu => ?_⟩⟩
  rw [← flat_drop hcl, List.getElem?_drop] at hu
  have := h.cells (g := g) rfl _ u hu
  rwa [Addr.add_mid, Nat.zero_add] at this

theorem zeros_len (z : Array Value) (n : Nat) : (Builtin.zeroCells z n).toList.length = n * z.size := by simp [Builtin.zeroCells]
/-- 'clear' of what lies behind the row's last element. -/
theorem run_clear_own (base : Nat) (t e ty : TypeId) (z : Value) (size : Nat) (ht : P.underlying t = some (.slice e)) (hv : ∀ w, (zeroValue e).run P w = .ok z w) (hzs : z.cells.size = size) (h1 : ∀ u ∈ z.cells, u.oneCell' = true)
    (g n m cap c : Nat) (xs : List Value) (hown : w.ownsRow base e size (.slice (some ⟨g, 0, none⟩) n cap) n xs) (hm : 0 < m) (hc : n + m ≤ cap) :
    ∃ w', (Builtin.clear_ #[t] ty #[.slice (some ⟨g, n * size, none⟩) m c]).run P w = .ok (.tuple #[]) w' ∧ w'.ownsRow base e size (.slice (some ⟨g, 0, none⟩) n cap) n xs ∧ w.grownBy w' (some g) := by
  rcases hown.2 with ⟨hv', _⟩ | ⟨g', cap', cur, hv', hb, hh, hn, hcm, hs, htk⟩
  · cases hv'
  · injection hv' with e1 e2 e3
    injection e1 with e1
    injection e1 with e1
    subst e1 e3
    have hone : ∀ u ∈ (Builtin.zeroCells z.cells m).toList, u.oneCell' = true := by
      intro u hu
      simp only [Builtin.zeroCells, Array.toList_map, List.mem_map, Array.toList_range, List.mem_range] at hu
      obtain ⟨i, hi, rfl⟩ := hu
      have hp : 0 < z.cells.size := by
        rcases Nat.eq_zero_or_pos z.cells.size with h0 | h0
        · rw [h0] at hi; omega
        · exact h0
      refine h1 _ ?_
      rw [getElem!_pos z.cells (i % z.cells.size) (Nat.mod_lt _ hp)]
      exact Array.getElem_mem _
    have hst := run_storeCells_at P g (n * size) e (Builtin.zeroCells z.cells m).toList 0 cur w hh (by rw [zeros_len, hzs, hs, Nat.add_zero, ← Nat.add_mul]; exact Nat.mul_le_mul_right _ hc) hone
    simp only [Nat.add_zero] at hst
    obtain ⟨m, rfl⟩ : ∃ k, m = k + 1 := ⟨m - 1, by omega⟩
    refine ⟨w.setRow g (cur.toList.take (n * size) ++ (Builtin.zeroCells z.cells (m + 1)).toList ++ cur.toList.drop (n * size + (Builtin.zeroCells z.cells (m + 1)).toList.length)).toArray, ?_, ⟨hown.1, .inr ⟨g, cap, _, rfl, hb, setRow_heap w g cur _ e _ hh, hn, hcm, ?_, ?_⟩⟩, ⟨rfl, rfl, rfl, by simp, fun k _ hk => setRow_other w g k _ (fun e => hk (by rw [e]))⟩⟩
    · simp [Builtin.clear_, run_underlying ht, hv, hst]
    · have hl := zeros_len z.cells (m + 1)
      have h2 : n * size + (m + 1) * size ≤ cap * size := by rw [← Nat.add_mul]; exact Nat.mul_le_mul_right _ hc
      rw [hzs] at hl
      simp only [List.size_toArray, List.length_append, List.length_take, List.length_drop, Array.length_toList, hl]
      omega
    · rw [← htk]
      simp only [List.append_assoc]
      rw [List.take_append_of_le_length (by have := Nat.mul_le_mul_right size hn; simp; rw [hs]; omega), List.take_take, Nat.min_self]
theorem wpList_clear_own {ops : Array Oper} {rest : List Oper} {o : Oper} {a : Act} {Q : Exit → Act → World → Prop} (hgd : o.guard = none) (x : Operand) (t : TypeId)
    (ho : o.op = .call { callee := .builtin .clear, args := #[x], argTypes := #[t] })
    (base : Nat) (e : TypeId) (z : Value) (size : Nat) (ht : P.underlying t = some (.slice e)) (hv : ∀ w, (zeroValue e).run P w = .ok z w) (hzs : z.cells.size = size) (h1 : ∀ u ∈ z.cells, u.oneCell' = true)
    (g n m cap c : Nat) (xs : List Value) (hown : w.ownsRow base e size (.slice (some ⟨g, 0, none⟩) n cap) n xs) (hm : 0 < m) (hc : n + m ≤ cap) (q : Nat) (hq : q = n * size) (hx : a.eval x = .slice (some ⟨g, q, none⟩) m c)
    (h : ∀ w', w'.ownsRow base e size (.slice (some ⟨g, 0, none⟩) n cap) n xs → w.grownBy w' (some g) → wpList P ops Q rest (a.put o.dst (.tuple #[])) w') : wpList P ops Q (o :: rest) a w :=
  wpList_plain hgd fun _ hK => by
    subst hq
    obtain ⟨w', hrun, h2, h3⟩ := run_clear_own (P := P) (w := w) base t e o.type z size ht hv hzs h1 g n m cap c xs hown hm hc
    unfold Oper.wp execOp
    simp only [ho, resolve, invoke, builtin, Sem.run_bind, Sem.run_pure, Result.andThen_ok, List.map_toArray, List.map_cons, List.map_nil, hx, hrun]
    exact hK _ _ (h w' h2 h3)
end
end Go.Proofs.Ytehlehfljgphkaa
