/-
  The program's moves and the document's, side by side.
-/
import Derived.Test.YtehlehfljgphkaaRefB
import Derived.Test.YtehlehfljgphkaaSame
namespace Go.Proofs.Ytehlehfljgphkaa
open Go.RowKit

/-- A row lies apart from what is written. -/
def Sep (w0 w : World) (g gw : Nat) (v : Value) (A : Option Addr) : Prop := ∀ ad, A = some ad → w0.heap.size ≤ ad.block ∧ ad.block < w.heap.size ∧ ad.block ≠ g ∧ ad.block ≠ gw ∧ v.ownBlock ≠ some ad.block
/-- The program's moves have l saved, the document's lr. -/
structure Two17 (w0 w : World) (g gw : Nat) (l lr all : List Cmd) (s : Bool) (last : Int) (v : Value) (AL AA : Option Addr) : Prop where
  own : Own w0 w g l s last v
  rm : Rm w gw lr all AL AA
  hw : w0.heap.size ≤ gw
  ne : gw ≠ g
  vo : v.ownBlock ≠ some gw
  sl : Sep w0 w g gw v AL
  sa : Sep w0 w g gw v AA
section
variable {w0 w w' : World} {g gw : Nat} {l lr all : List Cmd} {s : Bool} {last : Int} {v : Value} {AL AA : Option Addr}
theorem Rm.lt (h : Rm w gw lr all AL AA) : gw < w.heap.size := by
  obtain ⟨_, _, _, _, hb⟩ := h.blk
  exact hb.lt
theorem Sep.size {A : Option Addr} (h : Sep w0 w g gw v A) (hs : w.heap.size ≤ w'.heap.size) : Sep w0 w' g gw v A := fun ad e => by
  obtain ⟨h1, h2, h3, h4, h5⟩ := h ad e
  exact ⟨h1, by omega, h3, h4, h5⟩
theorem Two17.grown (h : Two17 w0 w g gw l lr all s last v AL AA) (hg : w.grownBy w' none) : Two17 w0 w' g gw l lr all s last v AL AA :=
  ⟨h.own.grown_ hg, h.rm.grown hg, h.hw, h.ne, h.vo, h.sl.size hg.size, h.sa.size hg.size⟩
theorem Two17.prog {l' : List Cmd} {s' : Bool} {last' : Int} {v' : Value} (h : Two17 w0 w g gw l lr all s last v AL AA) (f : Frm w w' g v.ownBlock) (h' : Mv w' g l' s' last' v') (o : v'.ownBlock = v.ownBlock ∨ ∀ k, v'.ownBlock = some k → w.heap.size ≤ k) : Two17 w0 w' g gw l' lr all s' last' v' AL AA := by
  have hgw := h.rm.lt
  have sep : ∀ A, Sep w0 w g gw v A → Sep w0 w' g gw v' A := fun A hs ad e => by
    obtain ⟨h1, h2, h3, h4, h5⟩ := hs ad e
    refine ⟨h1, Nat.lt_of_lt_of_le h2 f.size, h3, h4, fun e' => ?_⟩
    rcases o with o | o
    · exact h5 (o ▸ e')
    · have := o _ e'; omega
  refine ⟨h.own.frm f h', h.rm.keep f.size (f.block gw hgw h.ne (fun e => h.vo e.symm)) (fun ad e hl => ?_) (fun ad e hl => ?_), h.hw, h.ne, fun e' => ?_, sep _ h.sl, sep _ h.sa⟩
  · obtain ⟨_, _, h3, _, h5⟩ := h.sl ad e
    exact f.block _ hl h3 (fun e => h5 e.symm)
  · obtain ⟨_, _, h3, _, h5⟩ := h.sa ad e
    exact f.block _ hl h3 (fun e => h5 e.symm)
  · rcases o with o | o
    · exact h.vo (o ▸ e')
    · have := o _ e'; omega
/-- Where a new row of the document's lies: where the old one did, or it is made now. -/
def Newer17 (w w' : World) (A A' : Option Addr) : Prop := ∀ ad', A' = some ad' → (∃ ad, A = some ad ∧ ad'.block = ad.block) ∨ (w.heap.size ≤ ad'.block ∧ ad'.block < w'.heap.size)
theorem Newer17.same (w w' : World) (A : Option Addr) : Newer17 w w' A A := fun ad e => .inl ⟨ad, e, rfl⟩
theorem Own.other {k : Nat} (h : Own w0 w g l s last v) (hk : w0.heap.size ≤ k) (hne : k ≠ g) (hv : v.ownBlock ≠ some k) (hg : w.grownBy w' (some k)) : Own w0 w' g l s last v := by
  refine ⟨grown_own h.grown hg hk, h.ge, h.mv.blk.grown hg (fun e => hne (by injection e with e; exact e.symm)), h.mv.row.kept hg ?_⟩
  rcases hv' : v.ownBlock with _ | j
  · exact .inl rfl
  · exact .inr fun e => hv (by rw [hv']; exact e)
theorem Two17.refp {lr' all' : List Cmd} {AL' AA' : Option Addr} (h : Two17 w0 w g gw l lr all s last v AL AA) (hg : w.grownBy w' (some gw)) (h' : Rm w' gw lr' all' AL' AA') (hl : Newer17 w w' AL AL') (ha : Newer17 w w' AA AA') : Two17 w0 w' g gw l lr' all' s last v AL' AA' := by
  have hmv := h.own.mv
  have sep : ∀ A A', Sep w0 w g gw v A → Newer17 w w' A A' → (∀ ad, A' = some ad → ad.block ≠ gw) → Sep w0 w' g gw v A' := fun A A' hs hn hx ad e => by
    rcases hn ad e with ⟨ad0, e0, hb⟩ | ⟨h1, h2⟩
    · obtain ⟨h1, h2, h3, h4, h5⟩ := hs ad0 e0
      rw [hb]
      exact ⟨h1, Nat.lt_of_lt_of_le h2 hg.size, h3, h4, h5⟩
    · refine ⟨Nat.le_trans h.own.grown.size h1, h2, fun e' => by have := hmv.blk.lt; omega, hx ad e, fun e' => by have := (hmv.row_lt _ e').1; omega⟩
  exact ⟨h.own.other h.hw h.ne h.vo hg, h', h.hw, h.ne, h.vo, sep _ _ h.sl hl h'.nl, sep _ _ h.sa ha h'.na⟩
/-- A block of the round's own. -/
structure Apt (w0 : World) (g gw : Nat) (v : Value) (AL AA : Option Addr) (k : Nat) : Prop where
  lo : w0.heap.size ≤ k
  ng : k ≠ g
  nw : k ≠ gw
  nv : v.ownBlock ≠ some k
  nl : ∀ ad, AL = some ad → ad.block ≠ k
  na : ∀ ad, AA = some ad → ad.block ≠ k
theorem Two17.fresh (h : Two17 w0 w g gw l lr all s last v AL AA) (k : Nat) (hk : w.heap.size ≤ k) : Apt w0 g gw v AL AA k :=
  ⟨Nat.le_trans h.own.grown.size hk, fun e => by have := h.own.mv.blk.lt; omega, fun e => by have := h.rm.lt; omega, fun e => by have := (h.own.mv.row_lt _ e).1; omega,
   fun ad e => by have := (h.sl ad e).2.1; omega, fun ad e => by have := (h.sa ad e).2.1; omega⟩
theorem Two17.beside {k : Nat} (h : Two17 w0 w g gw l lr all s last v AL AA) (hk : Apt w0 g gw v AL AA k) (hg : w.grownBy w' (some k)) : Two17 w0 w' g gw l lr all s last v AL AA := by
  have hb : ∀ j, j < w.heap.size → j ≠ k → w'.heap[j]? = w.heap[j]? := fun j hj hn => hg.block j hj (fun e => hn (by injection e))
  exact ⟨h.own.other hk.lo hk.ng hk.nv hg, h.rm.keep hg.size (hb gw h.rm.lt (fun e => hk.nw e.symm)) (fun ad e hl => hb _ hl (hk.nl ad e)) (fun ad e hl => hb _ hl (hk.na ad e)), h.hw, h.ne, h.vo, h.sl.size hg.size, h.sa.size hg.size⟩
theorem Two17.drew_ (h : Two17 w0 w g gw l lr all s last v AL AA) : Two17 w0 w.drew g gw l lr all s last v AL AA := h.grown (only_drew (World.grownBy.refl w none))
end
/-- A step, raw. -/
structure St where
  acks : Bool
  seq : Int
  c : Cmd
def St.cl (x : St) : List Value := [.bool x.acks, .int .u16 x.seq, .int .u16 x.c.seq, .int .u8 x.c.btn, .int .i8 x.c.dx, .int .i8 x.c.dy, .int .i64 x.c.ticks]
theorem St.cl_len (x : St) : x.cl.length = 7 := rfl
abbrev Rst (w : World) (B : Nat) (A : Option Addr) (n : Nat) (cs : List St) : Prop := Rg 7 St.cl w B A n cs
def St.ok (x : St) : Prop := (0 ≤ x.seq ∧ x.seq < 65536) ∧ (0 ≤ x.c.seq ∧ x.c.seq < 65536)
/-- Where the play stands behind k steps. -/
def Plays (w0 w : World) (g gw k : Nat) : Prop := ∃ l all s last v AL AA, Two17 w0 w g gw l l all s last v AL AA ∧ Tied s last all ∧ l.length ≤ 64 ∧ all.length ≤ k ∧ (∀ c ∈ all, 0 ≤ c.seq ∧ c.seq < 65536) ∧ ∀ c ∈ l, 0 ≤ c.seq ∧ c.seq < 65536
end Go.Proofs.Ytehlehfljgphkaa
