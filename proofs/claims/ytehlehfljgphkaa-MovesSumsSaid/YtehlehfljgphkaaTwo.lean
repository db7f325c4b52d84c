/-
  Two Moves that lie apart, and a command beside them; the plain law of commands that are combined.
-/
import Derived.Test.YtehlehfljgphkaaTicks
namespace Go.Proofs.Ytehlehfljgphkaa
open Go.RowKit

structure Two5 (w0 w : World) (ga : Nat) (la : List Cmd) (sa : Bool) (na : Int) (va : Value) (gb : Nat) (lb : List Cmd) (sb : Bool) (nb : Int) (vb : Value) : Prop where
  a : Own w0 w ga la sa na va
  b : Own w0 w gb lb sb nb vb
  ne : ga ≠ gb
  ab : va.ownBlock ≠ some gb
  ba : vb.ownBlock ≠ some ga
  rows : ∀ k, va.ownBlock = some k → vb.ownBlock ≠ some k
section
variable {w0 w w' : World} {ga gb k : Nat} {la lb la' : List Cmd} {sa sb sa' : Bool} {na nb na' : Int} {va vb va' : Value} {c c' : Cmd}
theorem Two5.swap (h : Two5 w0 w ga la sa na va gb lb sb nb vb) : Two5 w0 w gb lb sb nb vb ga la sa na va :=
  ⟨h.b, h.a, fun e => h.ne e.symm, h.ba, h.ab, fun k e e2 => h.rows k e2 e⟩
theorem Mv.frm {g g2 : Nat} {l : List Cmd} {s : Bool} {n : Int} {v : Value} {r : Option Nat} (h : Mv w g l s n v) (f : Frm w w' g2 r) (hg : g ≠ g2) (hr : some g ≠ r) (hv : ∀ k, v.ownBlock = some k → k ≠ g2 ∧ some k ≠ r) : Mv w' g l s n v := by
  refine ⟨(f.block g h.blk.lt hg hr).trans h.blk, h.row.1, ?_⟩
  rcases h.row.2 with h2 | ⟨g', cap, cur, rfl, hb, hh, hx⟩
  · exact .inl h2
  · have hk := hv g' rfl
    exact .inr ⟨g', cap, cur, rfl, hb, (f.block g' (Array.getElem?_eq_some_iff.1 hh).1 hk.1 hk.2).trans hh, hx⟩
theorem Two5.put (h : Two5 w0 w ga la sa na va gb lb sb nb vb) (f : Frm w w' ga va.ownBlock) (hm : Mv w' ga la' sa' na' va') (o : va'.ownBlock = va.ownBlock ∨ ∀ k, va'.ownBlock = some k → w.heap.size ≤ k) : Two5 w0 w' ga la' sa' na' va' gb lb sb nb vb := by
  have ha := h.a.frm f hm
  refine ⟨ha, ⟨ha.grown, h.b.ge, h.b.mv.frm f (fun e => h.ne e.symm) (fun e => h.ab e.symm) (fun k e => ⟨fun e2 => h.ba (by rw [e, e2]), fun e2 => h.rows k e2.symm e⟩)⟩, h.ne, ?_, h.ba, ?_⟩
  · rcases o with o | o
    · rw [o]; exact h.ab
    · intro e; have := o gb e; have := h.b.mv.blk.lt; omega
  · intro k e e2
    rcases o with o | o
    · exact h.rows k (o ▸ e) e2
    · have := o k e
      have := (h.b.mv.row_lt k e2).1
      omega
theorem Two5.grown (h : Two5 w0 w ga la sa na va gb lb sb nb vb) (hg : w.grownBy w' none) : Two5 w0 w' ga la sa na va gb lb sb nb vb :=
  ⟨h.a.grown_ hg, h.b.grown_ hg, h.ne, h.ab, h.ba, h.rows⟩

/-- Block k is this command, and lies beside both. -/
structure Bes2 (w : World) (k ga : Nat) (va : Value) (gb : Nat) (vb : Value) (c : Cmd) : Prop where
  blk : Blk w k 33 #[.int .u16 c.seq, .int .u8 c.btn, .int .i8 c.dx, .int .i8 c.dy, .int .i64 c.ticks]
  na : k ≠ ga
  nb : k ≠ gb
  ra : va.ownBlock ≠ some k
  rb : vb.ownBlock ≠ some k
theorem Bes2.swap (h : Bes2 w k ga va gb vb c) : Bes2 w k gb vb ga va c := ⟨h.blk, h.nb, h.na, h.rb, h.ra⟩
theorem Bes2.put (h : Bes2 w k ga va gb vb c) (f : Frm w w' ga va.ownBlock) (o : va'.ownBlock = va.ownBlock ∨ ∀ k, va'.ownBlock = some k → w.heap.size ≤ k) : Bes2 w' k ga va' gb vb c :=
  ⟨h.blk.frm f h.na (fun e => h.ra e.symm), h.na, h.nb, fun e => by
    rcases o with o | o
    · exact h.ra (o ▸ e)
    · have := o k e; have := h.blk.lt; omega, h.rb⟩
theorem Bes2.grown (h : Bes2 w k ga va gb vb c) (hg : w.grownBy w' none) : Bes2 w' k ga va gb vb c := ⟨h.blk.grown hg (by simp), h.na, h.nb, h.ra, h.rb⟩
theorem Bes2.new (h : Two5 w0 w ga la sa na va gb lb sb nb vb) (c : Cmd) : Bes2 (w.alloc (.cells #[.int .u16 c.seq, .int .u8 c.btn, .int .i8 c.dx, .int .i8 c.dy, .int .i64 c.ticks] 33)) w.heap.size ga va gb vb c :=
  ⟨Blk.new w 33 _, fun e => by have := h.a.mv.blk.lt; omega, fun e => by have := h.b.mv.blk.lt; omega, fun e => by have := (h.a.mv.row_lt _ e).1; omega, fun e => by have := (h.b.mv.row_lt _ e).1; omega⟩
theorem Own.blk_other {g : Nat} {l : List Cmd} {s : Bool} {n : Int} {v : Value} (h : Own w0 w g l s n v) (hk : w0.heap.size ≤ k) (hne : k ≠ g) (hr : v.ownBlock ≠ some k) (hg : w.grownBy w' (some k)) : Own w0 w' g l s n v := by
  refine ⟨grown_own h.grown hg hk, h.ge, h.mv.blk.grown hg (fun e => hne (by injection e with e; exact e.symm)), h.mv.row.kept hg ?_⟩
  rcases hv : v.ownBlock with _ | j
  · exact .inl rfl
  · exact .inr fun e => hr (by rw [hv]; exact e)
theorem Two5.beside (h : Two5 w0 w ga la sa na va gb lb sb nb vb) (b : Bes2 w k ga va gb vb c) (hk : w0.heap.size ≤ k) (hg : w.grownBy w' (some k)) : Two5 w0 w' ga la sa na va gb lb sb nb vb :=
  ⟨h.a.blk_other hk b.na b.ra hg, h.b.blk_other hk b.nb b.rb hg, h.ne, h.ab, h.ba, h.rows⟩
theorem Bes2.own (b : Bes2 w k ga va gb vb c) (hb : Blk w' k 33 #[.int .u16 c'.seq, .int .u8 c'.btn, .int .i8 c'.dx, .int .i8 c'.dy, .int .i64 c'.ticks]) : Bes2 w' k ga va gb vb c' := ⟨hb, b.na, b.nb, b.ra, b.rb⟩
end
theorem cm_store {w : World} {k : Nat} {s b dx dy t : Int} (hb : Blk w k 33 #[.int .u16 s, .int .u8 b, .int .i8 dx, .int .i8 dy, .int .i64 t]) (s' b' dx' dy' t' : Int) :
    Blk (((((w.setCell ⟨k, 0, none⟩ (.int .u16 s')).setCell ⟨k, 1, none⟩ (.int .u8 b')).setCell ⟨k, 2, none⟩ (.int .i8 dx')).setCell ⟨k, 3, none⟩ (.int .i8 dy')).setCell ⟨k, 4, none⟩ (.int .i64 t')) k 33 #[.int .u16 s', .int .u8 b', .int .i8 dx', .int .i8 dy', .int .i64 t'] ∧
    w.grownBy (((((w.setCell ⟨k, 0, none⟩ (.int .u16 s')).setCell ⟨k, 1, none⟩ (.int .u8 b')).setCell ⟨k, 2, none⟩ (.int .i8 dx')).setCell ⟨k, 3, none⟩ (.int .i8 dy')).setCell ⟨k, 4, none⟩ (.int .i64 t')) (some k) :=
  ⟨(((((hb.put 0 _).put 1 _).put 2 _).put 3 _).put 4 _).of_ (by simp), only_put (only_put (only_put (only_put (World.grownBy_setCell' w k 0 _) 1 _) 2 _) 3 _) 4 _⟩
theorem cm_free {w : World} {k : Nat} {cs : Array Value} (h : Blk w k 33 cs) : w.frozen? ⟨k, 0, none⟩ = false ∧ w.frozen? ⟨k, 1, none⟩ = false ∧ w.frozen? ⟨k, 2, none⟩ = false ∧ w.frozen? ⟨k, 3, none⟩ = false ∧ w.frozen? ⟨k, 4, none⟩ = false :=
  ⟨h.free 0, h.free 1, h.free 2, h.free 3, h.free 4⟩

def p0 : Pl := ⟨0, 0, 0, 0⟩
def sumT (l : List Cmd) : Int := (l.map Cmd.ticks).foldr (· + ·) 0
theorem sumT_snoc (l : List Cmd) (c : Cmd) : sumT (l ++ [c]) = sumT l + c.ticks := by
  induction l with
  | nil => simp [sumT]
  | cons x r ih =>
    show x.ticks + sumT (r ++ [c]) = x.ticks + sumT r + c.ticks
    rw [ih]; omega
theorem sumT_take (l : List Cmd) (k : Nat) (c : Cmd) (h : l[k]? = some c) : sumT (l.take (k + 1)) = sumT (l.take k) + c.ticks := by
  rw [List.take_add_one, h]
  exact sumT_snoc _ c
theorem sumT_bd (l : List Cmd) (h : ∀ c ∈ l, rightB c = true) : 0 ≤ sumT l ∧ sumT l ≤ 8 * l.length := by
  induction l with
  | nil => simp [sumT]
  | cons x r ih =>
    have h1 := rightB_b (h x (by simp))
    have h2 := ih fun c hc => h c (by simp [hc])
    have e : sumT (x :: r) = x.ticks + sumT r := rfl
    rw [e, List.length_cons]
    omega
theorem newer_small {a b : Int} (h0 : 0 ≤ b) (h1 : b < a) (h2 : a ≤ 1000) : newer a b = true := by
  unfold newer dist
  exact decide_eq_true (by omega)

/-- What has been combined is worth what came. -/
structure Sum5 (la : List Cmd) (sa : Bool) (na : Int) (lb : List Cmd) (sb : Bool) (nb : Int) (some_ : Bool) (lc : Cmd) : Prop where
  ra : ∀ c ∈ la, rightB c = true
  rb : ∀ c ∈ lb, rightB c = true
  no : some_ = false → la = [] ∧ lb = [] ∧ sa = false ∧ sb = false ∧ lc = ⟨0, 0, 0, 0, 0⟩
  yes : some_ = true → rightB lc = true ∧ lc.seq = (la.length : Int) - 1 ∧ na = (la.length : Int) - 1 ∧ (sb = true → 0 ≤ nb ∧ nb < lc.seq) ∧ lb.length + 1 ≤ la.length ∧ la.foldl ticksP p0 = (lb ++ [lc]).foldl ticksP p0 ∧ sumT la = sumT lb + lc.ticks
theorem Sum5.start : Sum5 [] false 0 [] false 0 false ⟨0, 0, 0, 0, 0⟩ := ⟨(fun c h => by cases h), (fun c h => by cases h), fun _ => ⟨rfl, rfl, rfl, rfl, rfl⟩, fun h => by cases h⟩
section
variable {la lb : List Cmd} {sa sb some_ : Bool} {na nb : Int} {lc c : Cmd}
theorem mem_snoc {l : List Cmd} (h : ∀ d ∈ l, rightB d = true) (hc : rightB c = true) : ∀ d ∈ l ++ [c], rightB d = true := fun d hd => by
  rcases List.mem_append.1 hd with h1 | h1
  · exact h d h1
  · simp at h1; rw [h1]; exact hc
/-- The first one. -/
theorem Sum5.first (h : Sum5 la sa na lb sb nb false lc) (hr : rightB c = true) (hs : c.seq = la.length) : Sum5 (la ++ [c]) true c.seq lb sb nb true c := by
  obtain ⟨rfl, rfl, rfl, rfl, rfl⟩ := h.no rfl
  refine ⟨mem_snoc h.ra hr, h.rb, (fun e => by cases e), fun _ => ⟨hr, ?_, ?_, (fun e => by cases e), by simp, rfl, by rw [sumT_snoc]⟩⟩
  · rw [hs]; simp
  · rw [hs]; simp
/-- It is one with the last. -/
theorem Sum5.one (h : Sum5 la sa na lb sb nb true lc) (hr : rightB c = true) (hs : c.seq = la.length) (hok : okB lc c = true) : Sum5 (la ++ [c]) true c.seq lb sb nb true (comb lc c) := by
  obtain ⟨r1, r2, r3, r4, r5, r6, r7⟩ := h.yes rfl
  rcases comb_cases lc c with ⟨h', _⟩ | ⟨_, _, _, q1, q2, q3, q4, q5, _⟩
  · rw [hok] at h'; cases h'
  have b1 := rightB_b r1
  have b2 := rightB_b hr
  refine ⟨mem_snoc h.ra hr, h.rb, (fun e => by cases e), fun _ => ⟨q1, ?_, ?_, fun e => ?_, by rw [List.length_append]; simp; omega, ?_, ?_⟩⟩
  · rw [q2, hs]; simp
  · rw [hs]; simp
  · have := r4 e; rw [q2]; dsimp only; omega
  · rw [List.foldl_append, r6, List.foldl_append, List.foldl_append, q2]
    obtain ⟨s1, t1, x1, y1, n1⟩ := lc
    obtain ⟨s2, t2, x2, y2, n2⟩ := c
    dsimp only at q3 q4 q5 b1 b2
    subst q3 q4 q5
    show ticksP (ticksP _ _) _ = ticksP _ _
    unfold ticksP
    dsimp only
    have e : (n1 + n2).toNat = n2.toNat + n1.toNat := by omega
    rw [e, tks_add]
    have same : ∀ (a b n m : Int) (k : Nat) (p : Pl), tks ⟨a, t1, x1, y1, n⟩ k p = tks ⟨b, t1, x1, y1, m⟩ k p := by
      intro a b n m k p
      induction k with
      | zero => rfl
      | succ k ih => show tick _ _ = tick _ _; rw [ih]; rfl
    rw [same s1 s2 n1 (n1 + n2), same s2 s2 n2 (n1 + n2)]
  · rw [sumT_snoc, r7, q2]; dsimp only; omega
/-- The last is put, and it is the last. -/
theorem Sum5.next (h : Sum5 la sa na lb sb nb true lc) (hr : rightB c = true) (hs : c.seq = la.length) : Sum5 (la ++ [c]) true c.seq (lb ++ [lc]) true lc.seq true c := by
  obtain ⟨r1, r2, r3, r4, r5, r6, r7⟩ := h.yes rfl
  refine ⟨mem_snoc h.ra hr, mem_snoc h.rb r1, (fun e => by cases e), fun _ => ⟨hr, ?_, ?_, fun _ => ?_, by simp; omega, ?_, ?_⟩⟩
  · rw [hs]; simp
  · rw [hs]; simp
  · rw [hs, r2]; omega
  · rw [List.foldl_append, r6, List.foldl_append]
    rw [List.foldl_append, List.foldl_append]
  · rw [sumT_snoc, sumT_snoc, r7]
end
end Go.Proofs.Ytehlehfljgphkaa
