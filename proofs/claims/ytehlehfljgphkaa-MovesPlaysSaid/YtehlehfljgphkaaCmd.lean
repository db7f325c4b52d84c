/-
  Words on memory: slices of structs that read as lists; a row of the call's own of structs; append onto it; clear; commands as cells.
-/
import Derived.Test.YtehlehfljgphkaaBase
import Derived.Test.YtehlehfljgphkaaProg
import Derived.Deep.MidRow
import Derived.Lib.SliceRun
import Derived.IntWalk
namespace Go.Proofs.Ytehlehfljgphkaa
open Go.RowKit

/-- The slice (A, n) reads as the list xs of structs of sz cells (cl: a struct's cells), and lies below block B. -/
def Rg {α : Type} (_sz : Nat) (cl : α → List Value) (w : World) (B : Nat) (A : Option Addr) (n : Nat) (xs : List α) : Prop :=
  xs.length = n ∧ (0 < n → ∃ b off, A = some ⟨b, off, none⟩ ∧ b < B ∧ w.rangeAt b off (xs.flatMap cl))

section
variable {α : Type} {sz : Nat} {cl : α → List Value}
theorem flat_len (hcl : ∀ x, (cl x).length = sz) : ∀ xs : List α, (xs.flatMap cl).length = xs.length * sz
  | [] => by simp
  | x :: r => by rw [List.flatMap_cons, List.length_append, hcl, flat_len hcl r, List.length_cons, Nat.add_mul]; omega
theorem flat_drop (hcl : ∀ x, (cl x).length = sz) : ∀ (k : Nat) (xs : List α), (xs.flatMap cl).drop (k * sz) = (xs.drop k).flatMap cl
  | 0, xs => by simp
  | k + 1, [] => by simp
  | k + 1, x :: r => by
    rw [List.flatMap_cons, List.drop_succ_cons, ← flat_drop hcl k r, Nat.add_mul, Nat.one_mul, Nat.add_comm, List.drop_append, hcl]
    rw [List.drop_eq_nil_of_le (by rw [hcl]; omega), Nat.add_sub_cancel_left, List.nil_append]
theorem flat_at (hcl : ∀ x, (cl x).length = sz) (xs : List α) (k : Nat) (x : α) (hx : xs[k]? = some x) (j : Nat) (u : Value) (hu : (cl x)[j]? = some u) : (xs.flatMap cl)[k * sz + j]? = some u := by
  have h1 : (xs.flatMap cl)[k * sz + j]? = ((xs.flatMap cl).drop (k * sz))[j]? := by rw [List.getElem?_drop]
  obtain ⟨hk, hxk⟩ := List.getElem?_eq_some_iff.1 hx
  rw [h1, flat_drop hcl, List.drop_eq_getElem_cons hk, hxk, List.flatMap_cons, List.getElem?_append_left (List.getElem?_eq_some_iff.1 hu).1]
  exact hu
variable {w w' : World} {B B' n : Nat} {A : Option Addr} {xs : List α}
theorem Rg.at_ (hcl : ∀ x, (cl x).length = sz) (h : Rg sz cl w B A n xs) {k : Nat} (hk : k < n) : ∃ b off x, A = some ⟨b, off, none⟩ ∧ b < B ∧ xs[k]? = some x ∧ w.rangeAt b (off + k * sz) (cl x) := by
  obtain ⟨b, off, e, hb, hc⟩ := h.2 (by omega)
  have hl : k < xs.length := by have := h.1; omega
  refine ⟨b, off, xs[k], e, hb, List.getElem?_eq_getElem hl, fun j u hu => ?_⟩
  rw [Nat.add_assoc]
  exact hc _ _ (flat_at hcl xs k _ (List.getElem?_eq_getElem hl) j u hu)
theorem Rg.keep (h : Rg sz cl w B A n xs) (hk : ∀ p : Addr, p.block < B → w'.cell? p = w.cell? p) : Rg sz cl w' B A n xs :=
  ⟨h.1, fun hn => by
    obtain ⟨b, off, e, hb, hc⟩ := h.2 hn
    exact ⟨b, off, e, hb, fun j u hu => (hk _ hb).trans (hc j u hu)⟩⟩
theorem Rg.more (h : Rg sz cl w B A n xs) (hB : B ≤ B') : Rg sz cl w B' A n xs :=
  ⟨h.1, fun hn => by
    obtain ⟨b, off, e, hb, hc⟩ := h.2 hn
    exact ⟨b, off, e, by omega, hc⟩⟩
theorem Rg.below (h : Rg sz cl w B A n xs) (hb : Below B w w') : Rg sz cl w' B A n xs := h.keep fun _ hp => hb.cell hp
theorem Rg.grown (h : Rg sz cl w B A n xs) {row : Option Nat} (hg : w.grownBy w' row) (hB : B ≤ w.heap.size) (hr : ∀ g, row = some g → B ≤ g) : Rg sz cl w' B A n xs :=
  h.keep fun p hp => World.cell?_of_block (hg.block p.block (by omega) (fun e => by have := hr _ e.symm; omega))
theorem Rg.nil_ (w : World) (B : Nat) (A : Option Addr) : Rg sz cl w B A 0 ([] : List α) := ⟨rfl, fun h => absurd h (by omega)⟩
theorem Rg.take_ (h : Rg sz cl w B A n xs) {k : Nat} (hk : k ≤ n) : Rg sz cl w B A k (xs.take k) := by
  refine ⟨by rw [List.length_take, h.1]; omega, fun h0 => ?_⟩
  obtain ⟨b, off, e, hb, hc⟩ := h.2 (by omega)
  refine ⟨b, off, e, hb, fun j u hu => hc j u ?_⟩
  rw [← List.take_append_drop k xs, List.flatMap_append, List.getElem?_append_left (List.getElem?_eq_some_iff.1 hu).1]
  exact hu
/-- What the call owns reads as it is owned. -/
theorem own_rg {base : Nat} {e : TypeId} {c : Nat} (hcl : ∀ x, (cl x).length = sz) (hsz : 0 < sz) (h : w.ownsRow base e sz (.slice A n c) n (xs.flatMap cl)) : Rg sz cl w w.heap.size A n xs := by
  have hl : xs.length = n := by
    have := h.1
    rw [flat_len hcl] at this
    exact Nat.eq_of_mul_eq_mul_right hsz this
  refine ⟨hl, fun hn => ?_⟩
  obtain ⟨g, cap, hv, _, hlt⟩ := h.form hn
  have hA : A = some ⟨g, 0, none⟩ := by injection hv
  subst hA
  refine ⟨g, 0, rfl, hlt, fun j u hu => ?_⟩
  have := h.cells (g := g) rfl j u hu
  rwa [Addr.add_mid] at this
end

section
variable {P : Program} (w : World)
theorem run_append_none (base : Nat) (t ty e : TypeId) (i : TypeInfo) (size : Nat) (ht : P.underlying t = some (.slice e)) (hi : P.info? e = some i)
    (v : Value) (n : Nat) (xs : List Value) (hown : w.ownsRow base e size v n xs) (c : Nat) : (Builtin.append_ #[t, t] ty #[v, .slice none 0 c]).run P w = .ok v w := by
  rcases hown.2 with ⟨rfl, rfl⟩ | ⟨g, cap, cur, rfl, _, _, hnc, _⟩
  · simp [Builtin.append_, run_underlying ht, sizeOf, typeInfo, hi, Builtin.lenOf, Builtin.firstCells]
  · simp [Builtin.append_, run_underlying ht, sizeOf, typeInfo, hi, Builtin.lenOf, Builtin.firstCells, hnc, storeCells]

/-- 'append(v, s...)' at structs: v the call's own, s whatever reads as a list of structs. -/
theorem run_append_rg {α : Type} {cl : α → List Value} (base : Nat) (t ty e : TypeId) (z : Value) (size bytes : Nat) (hcl : ∀ x, (cl x).length = size) (ht : P.underlying t = some (.slice e)) (hinfo : (P.info? e).map (fun i => (i.zero, i.size, i.bytes)) = some (some z, size, bytes)) (hzs : z.cells.size = size) (hsz : 0 < size)
    (v : Value) (n : Nat) (xs : List Value) (hown : w.ownsRow base e size v n xs)
    (B : Nat) (A : Option Addr) (m c : Nat) (news : List α) (hr : Rg size cl w B A m news) (h1 : ∀ u ∈ news.flatMap cl, u.oneCell' = true)
    (h63 : n + m ≤ maxLen) (hbytes : (n + m) * bytes ≤ 140737488355328) (hbase : base ≤ w.heap.size) :
    ∃ A' c' w', (Builtin.append_ #[t, t] ty #[v, .slice A m c]).run P w = .ok (.slice A' (n + m) c') w' ∧ w'.ownsRow base e size (.slice A' (n + m) c') (n + m) (xs ++ news.flatMap cl) ∧ w.grownBy w' v.ownBlock ∧
      ((Value.slice A' (n + m) c').ownBlock = v.ownBlock ∨ (Value.slice A' (n + m) c').ownBlock = some w.heap.size) := by
  have shape : ∀ (w' : World) (v' : Value) (N : Nat) (ys : List Value), w'.ownsRow base e size v' N ys → ∃ A' c', v' = .slice A' N c' := by
    intro w' v' N ys h
    rcases h.2 with ⟨rfl, rfl⟩ | ⟨g, cap, cur, rfl, _⟩
    · exact ⟨none, 0, rfl⟩
    · exact ⟨some ⟨g, 0, none⟩, cap, rfl⟩
  obtain ⟨i, hi, hz, hsize, hby⟩ := info_parts hinfo
  have main : ∃ v' w', (Builtin.append_ #[t, t] ty #[v, .slice A m c]).run P w = .ok v' w' ∧ w'.ownsRow base e size v' (n + m) (xs ++ news.flatMap cl) ∧ w.grownBy w' v.ownBlock ∧ (v'.ownBlock = v.ownBlock ∨ v'.ownBlock = some w.heap.size) := by
    have hln := hr.1
    have hlf : (news.flatMap cl).length = m * size := by rw [flat_len hcl, hln]
    rcases A with _ | ad
    · have hm : m = 0 := by
        rcases Nat.eq_zero_or_pos m with h0 | h0
        · exact h0
        · obtain ⟨b, off, h, _⟩ := hr.2 h0
          cases h
      subst hm
      have hn : news = [] := List.eq_nil_of_length_eq_zero hln
      subst hn
      exact ⟨v, w, run_append_none w base t ty e i size ht hi v n xs hown c, by simpa using hown, World.grownBy.refl w _, .inl rfl⟩
    · have hcells : ∀ j u, (news.flatMap cl)[j]? = some u → w.cell? (ad.add j) = some u := by
        intro j u hu
        rcases Nat.eq_zero_or_pos m with h0 | h0
        · subst h0
          have hn : news = [] := List.eq_nil_of_length_eq_zero hln
          subst hn
          simp at hu
        · obtain ⟨b, off, h, _, hc⟩ := hr.2 h0
          injection h with h
          subst h
          rw [Addr.add_mid]
          exact hc j u hu
      obtain ⟨v', w', hrun, h2, h3, _, h5⟩ := run_append_own_at (P := P) w base t ty e i z size bytes ht hi hz hsize hby hzs hsz v n xs hown ad m c (news.flatMap cl) hlf hcells h1 h63 hbytes hbase
      exact ⟨v', w', hrun, h2, h3, h5⟩
  obtain ⟨v', w', hrun, h2, h3, h5⟩ := main
  obtain ⟨A', c', rfl⟩ := shape w' v' _ _ h2
  exact ⟨A', c', w', hrun, h2, h3, h5⟩
end

/-- A command. -/
structure Cmd where
  seq : Int
  btn : Int
  dx : Int
  dy : Int
  ticks : Int
def Cmd.cl (c : Cmd) : List Value := [.int .u16 c.seq, .int .u8 c.btn, .int .i8 c.dx, .int .i8 c.dy, .int .i64 c.ticks]
abbrev Cmd.val (c : Cmd) : Value := .agg #[.int .u16 c.seq, .int .u8 c.btn, .int .i8 c.dx, .int .i8 c.dy, .int .i64 c.ticks]
theorem Cmd.cl_len (c : Cmd) : c.cl.length = 5 := rfl
theorem Cmd.one (l : List Cmd) : ∀ u ∈ l.flatMap Cmd.cl, u.oneCell' = true := by
  intro u hu
  obtain ⟨c, _, hc⟩ := List.mem_flatMap.1 hu
  simp [Cmd.cl] at hc
  rcases hc with rfl | rfl | rfl | rfl | rfl <;> rfl
/-- Commands in memory. -/
abbrev Rc (w : World) (B : Nat) (A : Option Addr) (n : Nat) (cs : List Cmd) : Prop := Rg 5 Cmd.cl w B A n cs
theorem Try.info33 : (Try.prog.info? 33).map (fun i => (i.zero, i.size, i.bytes)) = some (some (.agg #[.int .u16 0, .int .u8 0, .int .i8 0, .int .i8 0, .int .i64 0]), 5, 16) := by kernel_rfl
theorem Try.size33 : (Try.prog.info? 33).map (·.size) = some 5 := by kernel_rfl

/-- A command is read. -/
theorem load_cmd {w : World} {b o : Nat} {c : Cmd} (h : w.rangeAt b o c.cl) : (Instr.loadAt 33 (.pointer (some ⟨b, o, none⟩))).run Try.prog w = .ok c.val w :=
  run_loadAt_mid w b o 33 c.cl _ h Try.underlying33 rfl Try.size33
end Go.Proofs.Ytehlehfljgphkaa
