/-
  Words on memory for this seat's proofs, over any program: a slice that reads as a list of one-cell values, wherever it lies; a row of the call's own; an append of such a slice onto such a row.
-/
import Derived.WalkKit
import Derived.WalkSpells
import Derived.WalkLawsBesides
import Derived.Lib.Hide
import Derived.Laws.BitsAllLaws
import Derived.Laws.BytesArg
import Derived.Maps.AppendAt
import Derived.Deep.AppendLies
import Derived.Deep.Draws
import Derived.Test.YtbilegkffooioaaGreatDoorProg
import Derived.Deep.MidRow
import Derived.Lib.SliceRun
import Derived.IntWalk
import Derived.Deep.RegionHeld3
import Derived.Deep.LoopGhost
import Derived.StillTailTactics
import Derived.RangeFuncNested
import Derived.RangeFuncBound
import Derived.RangeFuncCalls
import Derived.RangeFuncLeaves
import Derived.OrdersIn
import Derived.StillTail
namespace Go.Proofs.YtbilegkffooioaaGreatDoor
open Go.RowKit

/-- The slice (A, n) reads as the list xs, and lies below block B. -/
def Rd (w : World) (B : Nat) (A : Option Addr) (n : Nat) (xs : List Value) : Prop :=
  xs.length = n ∧ (0 < n → ∃ b off, A = some ⟨b, off, none⟩ ∧ b < B ∧ ∀ j u, xs[j]? = some u → w.cell? ⟨b, off + j, none⟩ = some u)

section
variable {w w' : World} {B B' n : Nat} {A : Option Addr} {xs : List Value}
theorem Rd.at_ {k : Nat} (h : Rd w B A n xs) (hk : k < n) : ∃ b off u, A = some ⟨b, off, none⟩ ∧ b < B ∧ xs[k]? = some u ∧ w.cell? ⟨b, off + k, none⟩ = some u := by
  obtain ⟨b, off, e, hb, hc⟩ := h.2 (by omega)
  have hl : k < xs.length := by have := h.1; omega
  exact ⟨b, off, xs[k], e, hb, List.getElem?_eq_getElem hl, hc k _ (List.getElem?_eq_getElem hl)⟩
theorem Rd.keep (h : Rd w B A n xs) (hk : ∀ p : Addr, p.block < B → w'.cell? p = w.cell? p) : Rd w' B A n xs :=
  ⟨h.1, fun hn => by
    obtain ⟨b, off, e, hb, hc⟩ := h.2 hn
    exact ⟨b, off, e, hb, fun j u hu => (hk _ hb).trans (hc j u hu)⟩⟩
theorem Rd.more (h : Rd w B A n xs) (hB : B ≤ B') : Rd w B' A n xs :=
  ⟨h.1, fun hn => by
    obtain ⟨b, off, e, hb, hc⟩ := h.2 hn
    exact ⟨b, off, e, by omega, hc⟩⟩
theorem Rd.below (h : Rd w B A n xs) (hb : Below B w w') : Rd w' B A n xs := h.keep fun _ hp => hb.cell hp
theorem Rd.alloc (h : Rd w B A n xs) (hB : B ≤ w.heap.size) (o : Obj) : Rd (w.alloc o) B A n xs := h.keep fun p hp => World.cell?_alloc_lt w o p (by omega)
theorem Rd.take_ (h : Rd w B A n xs) {k : Nat} (hk : k ≤ n) : Rd w B A k (xs.take k) := by
  refine ⟨by rw [List.length_take, h.1]; omega, fun h0 => ?_⟩
  obtain ⟨b, off, e, hb, hc⟩ := h.2 (by omega)
  refine ⟨b, off, e, hb, fun j u hu => hc j u ?_⟩
  rw [List.getElem?_take] at hu
  split at hu
  · exact hu
  · cases hu
theorem Rd.nil_ (w : World) (B : Nat) (A : Option Addr) : Rd w B A 0 [] := ⟨rfl, fun h => absurd h (by omega)⟩
theorem Rd.of_ (h : Rd w B A n xs) {ys : List Value} (e : xs = ys) : Rd w B A n ys := e ▸ h
theorem Rd.cells_ {b off : Nat} (h : Rd w B (some ⟨b, off, none⟩) n xs) : ∀ j u, xs[j]? = some u → w.cell? ((⟨b, off, none⟩ : Addr).add j) = some u := by
  intro j u hu
  have hl : j < xs.length := by
    rcases Nat.lt_or_ge j xs.length with h' | h'
    · exact h'
    · rw [List.getElem?_eq_none h'] at hu; cases hu
  have hn := h.1
  obtain ⟨b', off', e, hb, hc⟩ := h.2 (by omega)
  injection e with e
  injection e with e1 e2
  subst e1 e2
  have e : (⟨b, off, none⟩ : Addr).add j = ⟨b, off + j, none⟩ := by
    unfold Addr.add
    by_cases h0 : j = 0
    · subst h0; rfl
    · rw [if_neg h0]
  rw [e]
  exact hc j u hu
/-- What the call owns reads as it is owned. -/
theorem own_shape {base : Nat} {e : TypeId} {v : Value} (h : w.ownsRow base e 1 v n xs) :
    ∃ A c, v = .slice A n c ∧ Rd w w.heap.size A n xs := by
  have hown := h
  obtain ⟨hl, h⟩ := h
  rcases h with ⟨rfl, rfl⟩ | ⟨g, cap, cur, rfl, hb, hh, hnc, hm, hs, ht⟩
  · exact ⟨none, 0, rfl, by simpa using hl, fun h => absurd h (by omega)⟩
  · refine ⟨some ⟨g, 0, none⟩, cap, rfl, by simpa using hl, fun hn => ⟨g, 0, rfl, ?_, ?_⟩⟩
    · have := (hown.lt g rfl).2
      exact this
    · intro j u hu
      have h2 := hown.cells (g := g) rfl j u hu
      have e : (⟨g, 0, none⟩ : Addr).add j = ⟨g, 0 + j, none⟩ := by
        unfold Addr.add
        by_cases h0 : j = 0
        · subst h0; rfl
        · rw [if_neg h0]
      rw [e] at h2
      exact h2
/-- A row that a literal lays. -/
theorem Rd.lit (w : World) (cs : Array Value) (t : TypeId) (fr : Nat × Nat) : Rd (w.alloc (.cells cs t fr)) (w.heap.size + 1) (some ⟨w.heap.size, 0, none⟩) cs.size cs.toList := by
  refine ⟨by simp, fun _ => ⟨w.heap.size, 0, rfl, by omega, fun j u hu => ?_⟩⟩
  rw [World.cell?_alloc_mark]
  simpa using hu
end

section
variable {P : Program} (w : World)
theorem run_append_noughts (base : Nat) (t ty e : TypeId) (i : TypeInfo) (ht : P.underlying t = some (.slice e)) (hi : P.info? e = some i)
    (v : Value) (n : Nat) (xs : List Value) (hown : w.ownsRow base e 1 v n xs) (c : Nat) : (Builtin.append_ #[t, t] ty #[v, .slice none 0 c]).run P w = .ok v w := by
  rcases hown.2 with ⟨rfl, rfl⟩ | ⟨g, cap, cur, rfl, _, _, hnc, _⟩
  · simp [Builtin.append_, run_underlying ht, sizeOf, typeInfo, hi, Builtin.lenOf, Builtin.firstCells]
  · simp [Builtin.append_, run_underlying ht, sizeOf, typeInfo, hi, Builtin.lenOf, Builtin.firstCells, hnc, storeCells]

/-- 'append(v, s...)': v the call's own, s whatever reads as a list. -/
theorem run_append_rd (base : Nat) (t ty e : TypeId) (z : Value) (bytes : Nat) (ht : P.underlying t = some (.slice e)) (hinfo : (P.info? e).map (fun i => (i.zero, i.size, i.bytes)) = some (some z, 1, bytes)) (hzs : z.cells.size = 1)
    (v : Value) (n : Nat) (xs : List Value) (hown : w.ownsRow base e 1 v n xs)
    (B : Nat) (A : Option Addr) (m c : Nat) (news : List Value) (hr : Rd w B A m news) (h1 : ∀ u ∈ news, u.oneCell' = true)
    (h63 : n + m ≤ maxLen) (hbytes : (n + m) * bytes ≤ 140737488355328) (hbase : base ≤ w.heap.size) :
    ∃ v' w', (Builtin.append_ #[t, t] ty #[v, .slice A m c]).run P w = .ok v' w' ∧ w'.ownsRow base e 1 v' (n + m) (xs ++ news) ∧ w.grownBy w' v.ownBlock ∧
      (v'.ownBlock = v.ownBlock ∨ v'.ownBlock = some w.heap.size) := by
  obtain ⟨i, hi, hz, hsize, hby⟩ := info_parts hinfo
  by_cases hm : m = 0
  · subst hm
    have hn : news = [] := List.eq_nil_of_length_eq_zero hr.1
    subst hn
    rcases A with _ | ad
    · exact ⟨v, w, run_append_noughts w base t ty e i ht hi v n xs hown c, by simpa using hown, World.grownBy.refl w _, .inl rfl⟩
    · obtain ⟨v', w', hrun, h2, h3, _, h5⟩ := run_append_own_at (P := P) w base t ty e i z 1 bytes ht hi hz hsize hby hzs (by decide) v n xs hown ad 0 c [] rfl (fun j u hu => by simp at hu) h1 h63 hbytes hbase
      exact ⟨v', w', hrun, h2, h3, h5⟩
  · obtain ⟨b, off, rfl, _, _⟩ := hr.2 (by omega)
    obtain ⟨v', w', hrun, h2, h3, _, h5⟩ := run_append_own_at (P := P) w base t ty e i z 1 bytes ht hi hz hsize hby hzs (by decide) v n xs hown ⟨b, off, none⟩ m c news (by have := hr.1; omega) hr.cells_ h1 h63 hbytes hbase
    exact ⟨v', w', hrun, h2, h3, h5⟩

theorem wpList_append_rd {ops : Array Oper} {rest : List Oper} {o : Oper} {a : Act} {Q : Exit → Act → World → Prop} (hgd : o.guard = none) (s x : Operand) (t : TypeId)
    (ho : o.op = .call { callee := .builtin .append, args := #[s, x], argTypes := #[t, t] })
    (base : Nat) (e : TypeId) (z : Value) (bytes : Nat) (ht : P.underlying t = some (.slice e)) (hinfo : (P.info? e).map (fun i => (i.zero, i.size, i.bytes)) = some (some z, 1, bytes)) (hzs : z.cells.size = 1)
    (v : Value) (n : Nat) (xs : List Value) (hs : a.eval s = v) (hown : w.ownsRow base e 1 v n xs)
    (B : Nat) (A : Option Addr) (m c : Nat) (news : List Value) (hx : a.eval x = .slice A m c) (hr : Rd w B A m news) (h1 : ∀ u ∈ news, u.oneCell' = true)
    (N : Nat) (hN : n + m = N) (ys : List Value) (hys : xs ++ news = ys) (h63 : N ≤ maxLen) (hbytes : N * bytes ≤ 140737488355328) (hbase : base ≤ w.heap.size)
    (h : ∀ A' c' w', w'.ownsRow base e 1 (.slice A' N c') N ys → w.grownBy w' v.ownBlock → Rd w' w'.heap.size A' N ys → wpList P ops Q rest (a.put o.dst (.slice A' N c')) w') : wpList P ops Q (o :: rest) a w :=
  wpList_plain hgd fun _ hK => by
    subst hN
    subst hys
    obtain ⟨v', w', hrun, h2, h3, _⟩ := run_append_rd (P := P) w base t o.type e z bytes ht hinfo hzs v n xs hown B A m c news hr h1 h63 hbytes hbase
    unfold Oper.wp execOp
    simp only [ho, resolve, invoke, builtin, Sem.run_bind, Sem.run_pure, Result.andThen_ok, List.map_toArray, List.map_cons, List.map_nil, hs, hx, hrun]
    obtain ⟨A', c', rfl, hrd⟩ := own_shape h2
    exact hK _ _ (h A' c' w' h2 h3 hrd)
end

/-- Bytes as values; as a string. -/
def bv (n : Nat) : Value := .int .u8 (n : Int)
theorem bv_one (l : List Nat) : ∀ u ∈ l.map bv, u.oneCell' = true := by
  intro u hu
  obtain ⟨n, _, rfl⟩ := List.mem_map.1 hu
  rfl
def str (l : List Nat) : ByteArray := ⟨(l.map UInt8.ofNat).toArray⟩
theorem str_size (l : List Nat) : (str l).size = l.length := by simp [str, ByteArray.size]
theorem getD_bv (l : List Nat) (i : Nat) (h : i < l.length) : (l.map bv)[i]? = some (.int .u8 ((l.map fun n : Nat => (n : Int)).getD i 0)) := by
  simp [bv, h]
theorem run_string_rd {P : Program} (w : World) (src e dst : TypeId) (hs : P.underlying src = some (.slice e)) (he : P.underlying e = some (.int .u8)) (hd : P.underlying dst = some .string)
    {B : Nat} {A : Option Addr} {n : Nat} (c : Nat) {l : List Nat} (h : Rd w B A n (l.map bv)) : (Go.convert src dst (.slice A n c)).run P w = .ok (.string (str l)) w := by
  have hl : l.length = n := by simpa using h.1
  by_cases h0 : n = 0
  · subst h0
    have e : l = [] := List.eq_nil_of_length_eq_zero hl
    subst e
    rcases A with _ | ad
    · rw [run_convert_bytes_nil (P := P) w src e hs he 0 c dst hd]; rfl
    · rw [run_convert_bytes_string w src dst e _ 0 c hs he hd, run_bytesToString w ad 0 c [] (by simp [loadCells, loadCellsFrom])]; rfl
  · obtain ⟨b, off, rfl, _, hc⟩ := h.2 (by omega)
    rw [run_convert_bytes_arg (P := P) w src e hs he b off n c (l.map fun n : Nat => (n : Int)) (by simpa using hl) (fun i hi => hc i _ (getD_bv l i (by omega))) dst hd]
    congr 2
    simp [strOfNums, str]
theorem fewer (n N : Nat) : ∃ m, m ≤ n ∧ m ≤ N ∧ ((m = N ∧ N < n) ∨ (m = n ∧ n ≤ N)) := by
  by_cases h : N < n
  · exact ⟨N, by omega, by omega, .inl ⟨rfl, h⟩⟩
  · exact ⟨n, by omega, by omega, .inr ⟨rfl, by omega⟩⟩
theorem Rd.drewN {w : World} {B n : Nat} {A : Option Addr} {xs : List Value} (h : Rd w B A n xs) (k : Nat) : Rd (w.drewN k) B A n xs := h
theorem below_drawn {B : Nat} {a w : World} (h : Below B a w) (n : Nat) : Below B a (w.drewN n) := ⟨h.os, h.tape, h.output, h.size, h.block⟩
theorem quiet1 {P : Program} {f : FuncId} {args : Array Value} {w : World} {n : Nat} {v : Value} (h : Calls P f args (w.drewN n) fun e w' => e = .returned v ∧ w.drewN n = w') :
    Calls P f args (w.drewN n) fun e w'' => e = .returned v ∧ ∃ m, w'' = w.drewN m :=
  h.mono fun _ _ ⟨he, hm⟩ => ⟨he, n, hm.symm⟩
theorem rd_of_own {w : World} {base n c : Nat} {e : TypeId} {A : Option Addr} {xs : List Value} (h : w.ownsRow base e 1 (.slice A n c) n xs) : Rd w w.heap.size A n xs := by
  obtain ⟨A', c', hv, hr⟩ := own_shape h
  obtain rfl : A = A' := by injection hv
  exact hr

/-- Block g is just the cells cs of type t, none frozen. -/
def Blk (w : World) (g : Nat) (t : TypeId) (cs : Array Value) : Prop := w.heap[g]? = some (.cells cs t (0, 0))
section
variable {w w' : World} {g : Nat} {t : TypeId} {cs : Array Value}
theorem Blk.lt (h : Blk w g t cs) : g < w.heap.size := by
  rcases Nat.lt_or_ge g w.heap.size with hlt | hge
  · exact hlt
  · unfold Blk at h; rw [Array.getElem?_eq_none hge] at h; cases h
theorem Blk.cell (h : Blk w g t cs) (i : Nat) : w.cell? ⟨g, i, none⟩ = cs[i]? := cell_of_row w g i cs t (0, 0) h
theorem Blk.free (h : Blk w g t cs) (i : Nat) : w.frozen? ⟨g, i, none⟩ = false := by
  unfold Blk at h
  simp [World.frozen?, h]
theorem Blk.new (w : World) (t : TypeId) (cs : Array Value) : Blk (w.alloc (.cells cs t)) w.heap.size t cs := heap_alloc_new w _
theorem Blk.alloc (h : Blk w g t cs) (o : Obj) : Blk (w.alloc o) g t cs := (Below.heap_alloc w o g h.lt).trans h
theorem Blk.put (h : Blk w g t cs) (i : Nat) (u : Value) : Blk (w.setCell ⟨g, i, none⟩ u) g t (cs.setIfInBounds i u) := by
  unfold Blk at h ⊢
  simp [World.setCell, Array.getElem?_modify, h]
theorem Blk.grown {row : Option Nat} (h : Blk w g t cs) (hb : w.grownBy w' row) (hg : some g ≠ row) : Blk w' g t cs := (hb.block g h.lt hg).trans h
theorem Blk.below {B : Nat} (h : Blk w g t cs) (hb : Below B w w') (hg : g < B) : Blk w' g t cs := (hb.block g hg).trans h
theorem Blk.of_ (h : Blk w g t cs) {ds : Array Value} (e : cs = ds) : Blk w g t ds := e ▸ h
end
section
variable {a w : World} {row : Option Nat} {g : Nat}
theorem only_drawn (h : a.grownBy w row) (n : Nat) : a.grownBy (w.drewN n) row := ⟨h.os, h.tape, h.output, h.size, h.block⟩
theorem only_put (h : a.grownBy w (some g)) (i : Nat) (u : Value) : a.grownBy (w.setCell ⟨g, i, none⟩ u) (some g) :=
  ⟨h.os, h.tape, h.output, by simpa [World.setCell] using h.size, fun k hk hne => (Below.heap_setCell w ⟨g, i, none⟩ u k (by
    rintro rfl
    exact hne rfl)).trans (h.block k hk hne)⟩
theorem only_trans {b c : World} (h : a.grownBy b row) (k : b.grownBy c row) : a.grownBy c row :=
  ⟨k.os.trans h.os, k.tape.trans h.tape, k.output.trans h.output, Nat.le_trans h.size k.size, fun i hi hne => (k.block i (Nat.lt_of_lt_of_le hi h.size) hne).trans (h.block i hi hne)⟩
end
theorem ret_bool {a b : Bool} (h : a = b) : Ending.returned (.bool a) = .returned (.bool b) := by rw [h]
theorem ret_i64 {a b : Int} (h : a = b) : Ending.returned (.int .i64 a) = .returned (.int .i64 b) := by rw [h]
end Go.Proofs.YtbilegkffooioaaGreatDoor
/-
  Words on memory: slices of structs that read as lists; a row of the call's own of structs; append onto it. Players, shots, rows.
-/
namespace Go.Proofs.YtbilegkffooioaaGreatDoor
open Go.RowKit

/-- The slice (A, n) reads as the list xs of structs of sz cells (cl: a struct's cells), and lies below block B. -/
def Rg {α : Type} (_sz : Nat) (cl : α → List Value) (w : World) (B : Nat) (A : Option Addr) (n : Nat) (xs : List α) : Prop :=
  xs.length = n ∧ (0 < n → ∃ b off, A = some ⟨b, off, none⟩ ∧ b < B ∧ w.rangeAt b off (xs.flatMap cl))

section
variable {α : Type} {sz : Nat} {cl : α → List Value}
theorem flat_len (hcl : ∀ x, (cl x).length = sz) : ∀ xs : List α, (xs.flatMap cl).length = xs.length * sz
  | [] => by simp
  | x :: r => by rw [List.flatMap_cons, List.length_append, hcl, flat_len hcl r, List.length_cons, Nat.add_mul]; omega
theorem flat_drop (hcl : ∀ x, (cl x).length = sz) : ∀ (k : Nat) (xs : List α), (xs.flatMap cl).drop (k * sz) = (xs.drop k).flatMap cl
  | 0, xs => by simp
  | k + 1, [] => by simp
  | k + 1, x :: r => by
    rw [List.flatMap_cons, List.drop_succ_cons, ← flat_drop hcl k r, Nat.add_mul, Nat.one_mul, Nat.add_comm, List.drop_append, hcl]
    rw [List.drop_eq_nil_of_le (by rw [hcl]; omega), Nat.add_sub_cancel_left, List.nil_append]
theorem flat_at (hcl : ∀ x, (cl x).length = sz) (xs : List α) (k : Nat) (x : α) (hx : xs[k]? = some x) (j : Nat) (u : Value) (hu : (cl x)[j]? = some u) : (xs.flatMap cl)[k * sz + j]? = some u := by
  have h1 : (xs.flatMap cl)[k * sz + j]? = ((xs.flatMap cl).drop (k * sz))[j]? := by rw [List.getElem?_drop]
  obtain ⟨hk, hxk⟩ := List.getElem?_eq_some_iff.1 hx
  rw [h1, flat_drop hcl, List.drop_eq_getElem_cons hk, hxk, List.flatMap_cons, List.getElem?_append_left (List.getElem?_eq_some_iff.1 hu).1]
  exact hu
variable {w w' : World} {B B' n : Nat} {A : Option Addr} {xs : List α}
theorem Rg.at_ (hcl : ∀ x, (cl x).length = sz) (h : Rg sz cl w B A n xs) {k : Nat} (hk : k < n) : ∃ b off x, A = some ⟨b, off, none⟩ ∧ b < B ∧ xs[k]? = some x ∧ w.rangeAt b (off + k * sz) (cl x) := by
  obtain ⟨b, off, e, hb, hc⟩ := h.2 (by omega)
  have hl : k < xs.length := by have := h.1; omega
  refine ⟨b, off, xs[k], e, hb, List.getElem?_eq_getElem hl, fun j u hu => ?_⟩
  rw [Nat.add_assoc]
  exact hc _ _ (flat_at hcl xs k _ (List.getElem?_eq_getElem hl) j u hu)
theorem Rg.keep (h : Rg sz cl w B A n xs) (hk : ∀ p : Addr, p.block < B → w'.cell? p = w.cell? p) : Rg sz cl w' B A n xs :=
  ⟨h.1, fun hn => by
    obtain ⟨b, off, e, hb, hc⟩ := h.2 hn
    exact ⟨b, off, e, hb, fun j u hu => (hk _ hb).trans (hc j u hu)⟩⟩
theorem Rg.more (h : Rg sz cl w B A n xs) (hB : B ≤ B') : Rg sz cl w B' A n xs :=
  ⟨h.1, fun hn => by
    obtain ⟨b, off, e, hb, hc⟩ := h.2 hn
    exact ⟨b, off, e, by omega, hc⟩⟩
theorem Rg.below (h : Rg sz cl w B A n xs) (hb : Below B w w') : Rg sz cl w' B A n xs := h.keep fun _ hp => hb.cell hp
theorem Rg.grown (h : Rg sz cl w B A n xs) {row : Option Nat} (hg : w.grownBy w' row) (hB : B ≤ w.heap.size) (hr : ∀ g, row = some g → B ≤ g) : Rg sz cl w' B A n xs :=
  h.keep fun p hp => World.cell?_of_block (hg.block p.block (by omega) (fun e => by have := hr _ e.symm; omega))
theorem Rg.nil_ (w : World) (B : Nat) (A : Option Addr) : Rg sz cl w B A 0 ([] : List α) := ⟨rfl, fun h => absurd h (by omega)⟩
theorem Rg.take_ (h : Rg sz cl w B A n xs) {k : Nat} (hk : k ≤ n) : Rg sz cl w B A k (xs.take k) := by
  refine ⟨by rw [List.length_take, h.1]; omega, fun h0 => ?_⟩
  obtain ⟨b, off, e, hb, hc⟩ := h.2 (by omega)
  refine ⟨b, off, e, hb, fun j u hu => hc j u ?_⟩
  rw [← List.take_append_drop k xs, List.flatMap_append, List.getElem?_append_left (List.getElem?_eq_some_iff.1 hu).1]
  exact hu
/-- What the call owns reads as it is owned. -/
theorem own_rg {base : Nat} {e : TypeId} {c : Nat} (hcl : ∀ x, (cl x).length = sz) (hsz : 0 < sz) (h : w.ownsRow base e sz (.slice A n c) n (xs.flatMap cl)) : Rg sz cl w w.heap.size A n xs := by
  have hl : xs.length = n := by
    have := h.1
    rw [flat_len hcl] at this
    exact Nat.eq_of_mul_eq_mul_right hsz this
  refine ⟨hl, fun hn => ?_⟩
  obtain ⟨g, cap, hv, _, hlt⟩ := h.form hn
  have hA : A = some ⟨g, 0, none⟩ := by injection hv
  subst hA
  refine ⟨g, 0, rfl, hlt, fun j u hu => ?_⟩
  have := h.cells (g := g) rfl j u hu
  rwa [Addr.add_mid] at this
end

section
variable {P : Program} (w : World)
theorem run_append_none (base : Nat) (t ty e : TypeId) (i : TypeInfo) (size : Nat) (ht : P.underlying t = some (.slice e)) (hi : P.info? e = some i)
    (v : Value) (n : Nat) (xs : List Value) (hown : w.ownsRow base e size v n xs) (c : Nat) : (Builtin.append_ #[t, t] ty #[v, .slice none 0 c]).run P w = .ok v w := by
  rcases hown.2 with ⟨rfl, rfl⟩ | ⟨g, cap, cur, rfl, _, _, hnc, _⟩
  · simp [Builtin.append_, run_underlying ht, sizeOf, typeInfo, hi, Builtin.lenOf, Builtin.firstCells]
  · simp [Builtin.append_, run_underlying ht, sizeOf, typeInfo, hi, Builtin.lenOf, Builtin.firstCells, hnc, storeCells]

/-- 'append(v, s...)' at structs: v the call's own, s whatever reads as a list of structs. -/
theorem run_append_rg {α : Type} {cl : α → List Value} (base : Nat) (t ty e : TypeId) (z : Value) (size bytes : Nat) (hcl : ∀ x, (cl x).length = size) (ht : P.underlying t = some (.slice e)) (hinfo : (P.info? e).map (fun i => (i.zero, i.size, i.bytes)) = some (some z, size, bytes)) (hzs : z.cells.size = size) (hsz : 0 < size)
    (v : Value) (n : Nat) (xs : List Value) (hown : w.ownsRow base e size v n xs)
    (B : Nat) (A : Option Addr) (m c : Nat) (news : List α) (hr : Rg size cl w B A m news) (h1 : ∀ u ∈ news.flatMap cl, u.oneCell' = true)
    (h63 : n + m ≤ maxLen) (hbytes : (n + m) * bytes ≤ 140737488355328) (hbase : base ≤ w.heap.size) :
    ∃ A' c' w', (Builtin.append_ #[t, t] ty #[v, .slice A m c]).run P w = .ok (.slice A' (n + m) c') w' ∧ w'.ownsRow base e size (.slice A' (n + m) c') (n + m) (xs ++ news.flatMap cl) ∧ w.grownBy w' v.ownBlock ∧
      ((Value.slice A' (n + m) c').ownBlock = v.ownBlock ∨ (Value.slice A' (n + m) c').ownBlock = some w.heap.size) := by
  have shape : ∀ (w' : World) (v' : Value) (N : Nat) (ys : List Value), w'.ownsRow base e size v' N ys → ∃ A' c', v' = .slice A' N c' := by
    intro w' v' N ys h
    rcases h.2 with ⟨rfl, rfl⟩ | ⟨g, cap, cur, rfl, _⟩
    · exact ⟨none, 0, rfl⟩
    · exact ⟨some ⟨g, 0, none⟩, cap, rfl⟩
  obtain ⟨i, hi, hz, hsize, hby⟩ := info_parts hinfo
  have main : ∃ v' w', (Builtin.append_ #[t, t] ty #[v, .slice A m c]).run P w = .ok v' w' ∧ w'.ownsRow base e size v' (n + m) (xs ++ news.flatMap cl) ∧ w.grownBy w' v.ownBlock ∧ (v'.ownBlock = v.ownBlock ∨ v'.ownBlock = some w.heap.size) := by
    have hln := hr.1
    have hlf : (news.flatMap cl).length = m * size := by rw [flat_len hcl, hln]
    rcases A with _ | ad
    · have hm : m = 0 := by
        rcases Nat.eq_zero_or_pos m with h0 | h0
        · exact h0
        · obtain ⟨b, off, h, _⟩ := hr.2 h0
          cases h
      subst hm
      have hn : news = [] := List.eq_nil_of_length_eq_zero hln
      subst hn
      exact ⟨v, w, run_append_none w base t ty e i size ht hi v n xs hown c, by simpa using hown, World.grownBy.refl w _, .inl rfl⟩
    · have hcells : ∀ j u, (news.flatMap cl)[j]? = some u → w.cell? (ad.add j) = some u := by
        intro j u hu
        rcases Nat.eq_zero_or_pos m with h0 | h0
        · subst h0
          have hn : news = [] := List.eq_nil_of_length_eq_zero hln
          subst hn
          simp at hu
        · obtain ⟨b, off, h, _, hc⟩ := hr.2 h0
          injection h with h
          subst h
          rw [Addr.add_mid]
          exact hc j u hu
      obtain ⟨v', w', hrun, h2, h3, _, h5⟩ := run_append_own_at (P := P) w base t ty e i z size bytes ht hi hz hsize hby hzs hsz v n xs hown ad m c (news.flatMap cl) hlf hcells h1 h63 hbytes hbase
      exact ⟨v', w', hrun, h2, h3, h5⟩
  obtain ⟨v', w', hrun, h2, h3, h5⟩ := main
  obtain ⟨A', c', rfl⟩ := shape w' v' _ _ h2
  exact ⟨A', c', w', hrun, h2, h3, h5⟩
end


/-- A player. -/
structure Pl where
  id : Int
  px : Int
  py : Int
  pz : Int
  vx : Int
  vy : Int
  vz : Int
  ground : Bool
  health : Int
  armour : Int
  score : Int
  a0 : Int
  a1 : Int
  wait : Int
  dead : Int
deriving Inhabited, DecidableEq
def Pl.cl (p : Pl) : List Value := [.int .i64 p.id, .int .i64 p.px, .int .i64 p.py, .int .i64 p.pz, .int .i64 p.vx, .int .i64 p.vy, .int .i64 p.vz, .bool p.ground, .int .i64 p.health, .int .i64 p.armour, .int .i64 p.score, .int .i64 p.a0, .int .i64 p.a1, .int .i64 p.wait, .int .i64 p.dead]
abbrev Pl.val (p : Pl) : Value := .agg #[.int .i64 p.id, .int .i64 p.px, .int .i64 p.py, .int .i64 p.pz, .int .i64 p.vx, .int .i64 p.vy, .int .i64 p.vz, .bool p.ground, .int .i64 p.health, .int .i64 p.armour, .int .i64 p.score, .int .i64 p.a0, .int .i64 p.a1, .int .i64 p.wait, .int .i64 p.dead]
theorem Pl.cl_len (p : Pl) : p.cl.length = 15 := rfl
def flagZ (b : Bool) : Int := if b then 1 else 0
def Pl.fields (p : Pl) : List Int := [p.px, p.py, p.pz, p.vx, p.vy, p.vz, flagZ p.ground, p.health, p.armour, p.score, p.a0, p.a1, p.wait, p.dead]

/-- A shot. -/
structure Sh where
  id : Int
  owner : Int
  kind : Int
  px : Int
  py : Int
  pz : Int
  vx : Int
  vy : Int
  vz : Int
  fuse : Int
  rest : Bool
deriving Inhabited, DecidableEq
def Sh.cl (p : Sh) : List Value := [.int .i64 p.id, .int .i64 p.owner, .int .i64 p.kind, .int .i64 p.px, .int .i64 p.py, .int .i64 p.pz, .int .i64 p.vx, .int .i64 p.vy, .int .i64 p.vz, .int .i64 p.fuse, .bool p.rest]
abbrev Sh.val (p : Sh) : Value := .agg #[.int .i64 p.id, .int .i64 p.owner, .int .i64 p.kind, .int .i64 p.px, .int .i64 p.py, .int .i64 p.pz, .int .i64 p.vx, .int .i64 p.vy, .int .i64 p.vz, .int .i64 p.fuse, .bool p.rest]
theorem Sh.cl_len (p : Sh) : p.cl.length = 11 := rfl
def Sh.fields (p : Sh) : List Int := [p.owner, p.kind, p.px, p.py, p.pz, p.vx, p.vy, p.vz, p.fuse, flagZ p.rest]

/-- A row: a number and its fields. -/
structure Rw where
  id : Int
  fields : List Int
deriving Inhabited, DecidableEq
def Pl.row (p : Pl) : Rw := ⟨p.id, p.fields⟩
def Sh.row (p : Sh) : Rw := ⟨p.id, p.fields⟩
def ints (l : List Int) : List Value := l.map (Value.int .i64)

theorem Pl.one (l : List Pl) : ∀ u ∈ l.flatMap Pl.cl, u.oneCell' = true := by
  intro u hu
  obtain ⟨c, _, hc⟩ := List.mem_flatMap.1 hu
  simp [Pl.cl] at hc
  rcases hc with rfl | rfl | rfl | rfl | rfl | rfl | rfl | rfl | rfl | rfl | rfl | rfl | rfl | rfl | rfl <;> rfl
theorem Sh.one (l : List Sh) : ∀ u ∈ l.flatMap Sh.cl, u.oneCell' = true := by
  intro u hu
  obtain ⟨c, _, hc⟩ := List.mem_flatMap.1 hu
  simp [Sh.cl] at hc
  rcases hc with rfl | rfl | rfl | rfl | rfl | rfl | rfl | rfl | rfl | rfl | rfl <;> rfl

theorem Tryz.size38 : (Tryz.prog.info? 38).map (·.size) = some 15 := by kernel_rfl
theorem Tryz.size40 : (Tryz.prog.info? 40).map (·.size) = some 11 := by kernel_rfl
theorem Tryz.size89 : (Tryz.prog.info? 89).map (·.size) = some 2 := by kernel_rfl
theorem Tryz.size97 : (Tryz.prog.info? 97).map (·.size) = some 4 := by kernel_rfl
/-- One is read. -/
theorem load_pl {w : World} {b o : Nat} {c : Pl} (h : w.rangeAt b o c.cl) : (Instr.loadAt 38 (.pointer (some ⟨b, o, none⟩))).run Tryz.prog w = .ok c.val w :=
  run_loadAt_mid w b o 38 c.cl _ h Tryz.underlying38 rfl Tryz.size38
theorem load_sh {w : World} {b o : Nat} {c : Sh} (h : w.rangeAt b o c.cl) : (Instr.loadAt 40 (.pointer (some ⟨b, o, none⟩))).run Tryz.prog w = .ok c.val w :=
  run_loadAt_mid w b o 40 c.cl _ h Tryz.underlying40 rfl Tryz.size40
theorem Tryz.info38 : (Tryz.prog.info? 38).map (fun i => (i.zero, i.size, i.bytes)) = some (some (Pl.val default), 15, 120) := by kernel_rfl
theorem Tryz.info40 : (Tryz.prog.info? 40).map (fun i => (i.zero, i.size, i.bytes)) = some (some (Sh.val default), 11, 88) := by kernel_rfl
theorem Tryz.info89 : (Tryz.prog.info? 89).map (fun i => (i.zero, i.size, i.bytes)) = some (some (.agg #[.int .i64 0, .slice none 0 0]), 2, 32) := by kernel_rfl
theorem Tryz.info97 : (Tryz.prog.info? 97).map (fun i => (i.zero, i.size, i.bytes)) = some (some (.agg #[.int .i64 0, .int .i64 0, .int .i64 0, .int .i64 0]), 4, 32) := by kernel_rfl
end Go.Proofs.YtbilegkffooioaaGreatDoor
/-
  A region that draws its order, walked within a round of a range over a function by the laws of the plain walk: nothing in it is a defer statement; what it leaves is normal.
-/
namespace Go.Proofs.YtbilegkffooioaaGreatDoor
open Go.RowKit

/-- What is left is normal. -/
def plainQ (Q : Exit → Act → World → Prop) : Exit → Act → World → Prop := fun e a w => e = .normal ∧ Q .normal a w
theorem plainQ.mk {Q : Exit → Act → World → Prop} {a : Act} {w : World} (h : Q .normal a w) : plainQ Q .normal a w := ⟨rfl, h⟩
theorem plainQ.lets {Q : Exit → Act → World → Prop} : ¬ LetsOut (plainQ Q) := fun ⟨_, _, h, _⟩ => by cases h

/-- No operation is a defer statement. -/
def noDefer (ops : Array Oper) : Bool := ops.all fun o => match o.op with | .defer _ => false | _ => true
theorem noDefer.at_ {ops : Array Oper} (h : noDefer ops = true) {i : Nat} {o : Oper} (ho : ops[i]? = some o) : ∀ c, o.op ≠ .defer c := fun c e => by
  obtain ⟨hi, rfl⟩ := Array.getElem?_eq_some_iff.1 ho
  have := (Array.all_eq_true.1 h) i hi
  rw [e] at this
  cases this

section
variable {P : Program} {ops : Array Oper} {md : Region.Mode} {l n : Nat} {Q : Exit → Act → World → Prop}

theorem upon_round {o : Oper} {a : Act} {K : Act → World → Prop} (r : Result Next) (h : o.upon P a K Q r) : o.uponIn (Fence.wide.inRound l) n P a K Q r := by
  have no : ¬ (Fence.wide.inRound l).depth.isSome = true := by intro h; cases h
  cases r with
  | ok x w' =>
    cases x
    case value v => exact h
    case skip => exact h
    case defer d => exact h
    case enter f args => exact ⟨fun h => absurd h no, CallsIn.inRound l (callsIn_wide.2 h)⟩
    case row row args =>
      refine ⟨fun h => absurd h no, fun c cs _ => ?_⟩
      obtain ⟨v, w', r, s⟩ := h c cs
      exact ⟨v, w', r, stepsIn_wide.2 s⟩
    all_goals exact h.elim
  | halt x w' => cases x <;> exact h

theorem wpOp_round (hd : noDefer ops = true) {i : Nat} {K K' : Act → World → Prop} {a : Act} {w : World} (hK : ∀ a w, K a w → K' a w) (h : wpOp P ops (plainQ Q) i K a w) :
    wpOpIn (Fence.wide.inRound l) n P ops (plainQ Q) i K' a w := by
  have h := wpOp_mono hK h
  unfold wpOp at h
  unfold wpOpIn
  cases hi : ops[i]? with
  | none => simpa [hi] using h
  | some o =>
    simp only [hi] at h ⊢
    split
    · rename_i hw
      rw [if_pos hw] at h
      rcases h with h | ⟨_, h⟩
      · refine ⟨fun _ _ => trivial, ?_⟩
        rw [show (Fence.wide.inRound l).round = some l from rfl, Oper.semAt_some l _ o (noDefer.at_ hd hi)]
        exact upon_round _ h
      · exact absurd h plainQ.lets
    · rename_i hw
      rw [if_neg hw] at h
      exact ⟨fun _ _ => trivial, h⟩

theorem wpAny_round (hd : noDefer ops = true) : ∀ (fuel : Nat) (listed : Array Bool) (a : Act) (w : World), wpAny P md ops (plainQ Q) fuel listed a w →
    wpAnyIn (Fence.wide.inRound l) n P md ops (plainQ Q) fuel listed a w
  | 0, _, _, _, h => h
  | fuel + 1, _, _, _, h => ⟨h.1, fun i hi => wpOp_round hd (fun a w => wpAny_round hd fuel _ a w) (h.2 i hi)⟩

/-- Within a round: a region that draws, by the plain walk. -/
theorem wpIn_region_round {id : Nat} {a : Act} {w : World} (hm : P.follows .mixedOrders = true) (hd : noDefer ops = true)
    (h : wpAny P .any ops (plainQ Q) ops.size (Array.replicate ops.size false) a w.drew) : (Code.region id ops true).wpIn (Fence.wide.inRound l) n P Q a w :=
  wpIn_mono (wpIn_region_any hm (wpAny_round hd _ _ _ _ h)) (fun _ _ _ h => by obtain ⟨rfl, h⟩ := h; exact h)

/-- The same, and what is left is said. -/
theorem wpIn_region_round_post {id : Nat} {a : Act} {w : World} (Post : Act → World → Prop) (hm : P.follows .mixedOrders = true) (hd : noDefer ops = true) (hp : ∀ a' w', Post a' w' → Q .normal a' w')
    (h : wpAny P .any ops (plainQ fun _ => Post) ops.size (Array.replicate ops.size false) a w.drew) : (Code.region id ops true).wpIn (Fence.wide.inRound l) n P Q a w :=
  wpIn_mono (wpIn_region_any hm (wpAny_round hd _ _ _ _ h)) (fun _ _ _ h => by obtain ⟨rfl, h⟩ := h; exact hp _ _ h)

/-- The same, all but the last k' operations reading alone. -/
theorem wpIn_round_tail {id : Nat} {a : Act} {w : World} {l' : List Oper} (k : Nat) (hm : P.follows .mixedOrders = true) (hd : noDefer l'.toArray = true) (hB : Region.lexTailB .any l'.toArray k = true)
    (h : wpStill P l'.toArray w.drew (fun a' => wpList P l'.toArray (plainQ Q) (l'.drop k) a' w.drew) (l'.take k) a) : (Code.region id l'.toArray true).wpIn (Fence.wide.inRound l) n P Q a w := by
  refine wpIn_region_round hm hd ?_
  simp only [Region.lexTailB, Bool.and_eq_true, decide_eq_true_eq] at hB
  obtain ⟨⟨⟨⟨hsel, hn⟩, hs⟩, hc⟩, hlex⟩ := hB
  have hn' : k < l'.length := by simpa using hn
  have htl : (l'.take k).length = k := by simp; omega
  have hdl : (l'.drop k).length = l'.toArray.size - k := by simp
  have inv0 : HeadInv .any l'.toArray k (Array.replicate l'.toArray.size false) :=
    ⟨by simp, fun j oj _ hl => (by rw [getD_replicate_false] at hl; cases hl), fun t _ ht => getD_in (by simpa using ht) (getD_replicate_false _ _)⟩
  have H := wpAnyL_lex (md := .any) (g := l'.toArray.size - k) hsel hs hc hn (l'.take k) 0 _ a (fun j hj => by
    have hj' : j < k := by rw [htl] at hj; exact hj
    simp [hj']) (by simpa using htl) inv0 (by rw [htl]; exact hlex) h
  have := wpAny_of_head (Q' := plainQ Q) (g := l'.toArray.size - k) (fun listed a' hL => by
    have := wpAny_of_seq (md := .any) (Q' := plainQ Q) (l'.drop k) k listed a' w.drew (fun j => by simp [List.getElem?_drop]) (by rw [hdl]; exact hL.1) hL.2
    rwa [hdl] at this) _ _ _ H
  rw [htl, show k + (l'.toArray.size - k) = l'.toArray.size by omega] at this
  exact this
end
end Go.Proofs.YtbilegkffooioaaGreatDoor
