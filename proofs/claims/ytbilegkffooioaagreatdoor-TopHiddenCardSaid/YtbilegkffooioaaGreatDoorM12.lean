/-
  Functions proved by hand, for the evaluator: what they may turn.
-/
import Derived.Test.YtbilegkffooioaaGreatDoorM11
import Derived.Test.YtbilegkffooioaaGreatDoorM02
import Derived.StillTactics
import Derived.Laws.OwnMore
import Derived.Laws.Externs
import Derived.KernelRfl
namespace Go.Ev

/-- What a call by hand has turned: the blocks of D, and one new number. -/
theorem went_gen {P : Program} {base : Nat} {ρ : Ren} {m m' : Mem} {w w' : World} (h : Rel P base ρ m w) (D : Nat → Prop) (s' : Slot) (hD : ∀ b, D b → live m b ∧ base ≤ b)
    (hsz : w.heap.size ≤ w'.heap.size) (hheap : ∀ c, c < w.heap.size → (∀ b s, D b → ρ b = some s → s.blk ≠ c) → w'.heap[c]? = w.heap[c]?) (hos : w'.os = w.os) (hout : w'.output = w.output) (htape : w'.tape = w.tape)
    (hn : m'.next = m.next + 1)
    (hget : ∀ x k, m'.blks.get x = some k → k ≠ .dead → (x = m.next ∧ BR P (ρ.with m.next s') k s' w') ∨ (x < m.next ∧ D x ∧ ∃ s, ρ x = some s ∧ BR P (ρ.with m.next s') k s w') ∨ (x < m.next ∧ ¬ D x ∧ m.blks.get x = some k))
    (hs' : w.heap.size ≤ s'.blk ∨ ∃ r tr, D r ∧ ρ r = some tr ∧ tr.blk = s'.blk ∧ ¬ live m' r) :
    Went P base ρ m w (ρ.with m.next s') m' w' := by
  have hdom : ρ m.next = none := h.dom _ (Nat.le_refl _)
  have he := Ren.ext_with (s := s') hdom
  have hold : ∀ x, x ≠ m.next → live m' x → live m x := fun x hx ⟨k, hk, hd⟩ => by
    rcases hget x k hk hd with ⟨h1, _⟩ | ⟨_, h2, _⟩ | ⟨_, _, h3⟩
    · exact absurd h1 hx
    · exact (hD x h2).1
    · exact ⟨k, h3, hd⟩
  have hlt : ∀ x s, ρ x = some s → live m x → s.blk < w.heap.size := fun x s hs ⟨k', hk', hd⟩ => by
    obtain ⟨s1, hs1, hbr⟩ := h.im x k' hk' hd
    have : s1 = s := Option.some.inj (hs1.symm.trans hs)
    subst this
    cases k' with
    | cells c n t z => obtain ⟨cs, h1, _⟩ := hbr; exact (Array.getElem?_eq_some_iff.1 h1).1
    | bytes c n t => obtain ⟨cs, h1, _⟩ := hbr; exact (Array.getElem?_eq_some_iff.1 h1).1
    | obj o => obtain ⟨_, o', h1, _⟩ := hbr; exact (Array.getElem?_eq_some_iff.1 h1).1
    | dead => exact absurd rfl hd
  have hnew : ∀ x s, x ≠ m.next → live m' x → ρ x = some s → s.blk ≠ s'.blk := fun x s hx hl hs heq => by
    have hlx := hold x hx hl
    rcases hs' with h1 | ⟨r, tr, h1, h2, h3, h4⟩
    · have := hlt x s hs hlx
      omega
    · have := h.inj x r s tr hlx (hD r h1).1 hs h2 (heq.trans h3.symm)
      subst this
      exact h4 hl
  refine ⟨he, ⟨fun x hx => ?_, fun x k hk hd => ?_, fun x k hk hd => ?_, fun x y s1 s2 hx hy h1 h2 heq => ?_, fun x hx => ?_, by rw [hn]; exact Nat.le_succ_of_le h.low⟩,
    ⟨hsz, fun c hc hno => hheap c hc fun b s hb hs => hno b s (hD b hb).2 (hD b hb).1 hs, hos, hout, htape⟩, fun x s hx hl hs => ?_, by omega, fun x hx hl => hold x (by omega) hl, fun x hx => by rw [Ren.with, if_neg (by omega)]⟩
  · rw [hn] at hx
    rw [Ren.with, if_neg (by omega)]; exact h.dom x (by omega)
  · rw [hn]
    rcases hget x k hk hd with ⟨h1, _⟩ | ⟨h2, _⟩ | ⟨h3, _⟩ <;> omega
  · rcases hget x k hk hd with ⟨h1, h2⟩ | ⟨h0, h1, s, h2, h3⟩ | ⟨h0, h1, h2⟩
    · subst h1; exact ⟨s', by rw [Ren.with, if_pos rfl], h2⟩
    · exact ⟨s, he x s h2, h3⟩
    · obtain ⟨s, hs, hbr⟩ := h.im x k h2 hd
      refine ⟨s, he x s hs, hbr.mono he (hheap _ (hlt x s hs ⟨k, h2, hd⟩) fun b t hb ht heq => ?_)⟩
      have := h.inj b x t s (hD b hb).1 ⟨k, h2, hd⟩ ht hs heq
      exact h1 (this ▸ hb)
  · by_cases hx1 : x = m.next <;> by_cases hy1 : y = m.next
    · omega
    · subst hx1
      rw [Ren.with, if_pos rfl] at h1
      rw [Ren.with, if_neg hy1] at h2
      cases h1
      exact absurd heq.symm (hnew y s2 hy1 hy h2)
    · subst hy1
      rw [Ren.with, if_pos rfl] at h2
      rw [Ren.with, if_neg hx1] at h1
      cases h2
      exact absurd heq (hnew x s1 hx1 hx h1)
    · rw [Ren.with, if_neg hx1] at h1
      rw [Ren.with, if_neg hy1] at h2
      exact h.inj x y s1 s2 (hold x hx1 hx) (hold y hy1 hy) h1 h2 heq
  · have := h.low
    rw [Ren.with, if_neg (by omega)]; exact h.glob x hx
  · by_cases hx1 : x = m.next
    · subst hx1
      rw [Ren.with, if_pos rfl] at hs
      cases hs
      rcases hs' with h1 | ⟨r, tr, h1, h2, h3, h4⟩
      · exact .inl h1
      · exact .inr ⟨r, tr, (hD r h1).2, (hD r h1).1, h2, h3⟩
    · have := live_lt h (hold x hx1 hl)
      omega

end Go.Ev
namespace Go.PutG
open Go.Proofs Go.Proofs.YtbilegkffooioaaGreatDoor Go.RowKit Go.Shelf
attribute [local go_sem] Oper.semAt_some

/-- Bit k as a number. -/
def bi (bs : List Bool) (k : Nat) : Nat := if bs.getD k false then 1 else 0
/-- Byte i of bits, the highest first. -/
def by8 (bs : List Bool) (i : Nat) : Nat := bi bs (8*i) * 128 + bi bs (8*i+1) * 64 + bi bs (8*i+2) * 32 + bi bs (8*i+3) * 16 + bi bs (8*i+4) * 8 + bi bs (8*i+5) * 4 + bi bs (8*i+6) * 2 + bi bs (8*i+7)
/-- The first N bytes. -/
def pk (bs : List Bool) (N : Nat) : List Nat := (List.range N).map (by8 bs)
theorem pk_len (bs : List Bool) (N : Nat) : (pk bs N).length = N := by simp [pk]
theorem bi_le (bs : List Bool) (k : Nat) : bi bs k ≤ 1 := by unfold bi; split <;> omega
theorem by8_lt (bs : List Bool) (i : Nat) : by8 bs i < 256 := by
  have := bi_le bs (8*i); have := bi_le bs (8*i+1); have := bi_le bs (8*i+2); have := bi_le bs (8*i+3); have := bi_le bs (8*i+4); have := bi_le bs (8*i+5); have := bi_le bs (8*i+6); have := bi_le bs (8*i+7)
  unfold by8; omega
theorem bi_out (bs : List Bool) (k : Nat) (h : bs.length ≤ k) : bi bs k = 0 := by unfold bi; simp [List.getD, List.getElem?_eq_none h]
theorem bi_snoc (bs : List Bool) (b : Bool) (k : Nat) (h : k ≠ bs.length) : bi (bs ++ [b]) k = bi bs k := by
  rcases Nat.lt_or_ge k bs.length with hlt | hge
  · have e : (bs ++ [b]).getD k false = bs.getD k false := by simp only [List.getD, List.getElem?_append_left hlt]
    unfold bi; rw [e]
  · rw [bi_out bs k hge, bi_out _ _ (by simp; omega)]
theorem bi_last (bs : List Bool) (b : Bool) : bi (bs ++ [b]) bs.length = if b then 1 else 0 := by unfold bi; simp [List.getD]
theorem by8_out (bs : List Bool) (i : Nat) (h : bs.length ≤ 8 * i) : by8 bs i = 0 := by
  unfold by8; rw [bi_out, bi_out, bi_out, bi_out, bi_out, bi_out, bi_out, bi_out] <;> omega
theorem by8_other (bs : List Bool) (b : Bool) (i : Nat) (h : i ≠ bs.length / 8) : by8 (bs ++ [b]) i = by8 bs i := by
  unfold by8; rw [bi_snoc, bi_snoc, bi_snoc, bi_snoc, bi_snoc, bi_snoc, bi_snoc, bi_snoc] <;> omega
theorem by8_here (bs : List Bool) (b : Bool) : by8 (bs ++ [b]) (bs.length / 8) = by8 bs (bs.length / 8) + (if b then 1 else 0) * 2 ^ (7 - bs.length % 8) := by
  have h8 : bs.length % 8 < 8 := Nat.mod_lt _ (by decide)
  have hl : 8 * (bs.length / 8) + bs.length % 8 = bs.length := Nat.div_add_mod _ _
  have hlast := bi_last bs b
  have hz := bi_out bs bs.length (Nat.le_refl _)
  unfold by8
  generalize bs.length / 8 = q at *
  generalize hr : bs.length % 8 = r at *
  rcases (by omega : r = 0 ∨ r = 1 ∨ r = 2 ∨ r = 3 ∨ r = 4 ∨ r = 5 ∨ r = 6 ∨ r = 7) with h | h | h | h | h | h | h | h <;> subst h <;>
    (rw [← hl] at hlast hz
     try simp only [Nat.add_zero] at hlast hz
     rw [hlast, hz]
     repeat rw [bi_snoc _ _ _ (by omega)]
     split <;> simp <;> omega)

theorem or_u8_nat (a b : Nat) (ha : a < 256) (hb : b < 256) : bits .or .u8 (a : Int) (b : Int) = ((a ||| b : Nat) : Int) := by
  have hx : a ||| b < 2 ^ 8 := Nat.or_lt_two_pow (by omega) (by omega)
  have h1 : (BitVec.ofInt 8 (a : Int)).toNat = a := by
    rw [BitVec.ofInt_natCast, BitVec.toNat_ofNat]; exact Nat.mod_eq_of_lt (by omega)
  have h2 : (BitVec.ofInt 8 (b : Int)).toNat = b := by
    rw [BitVec.ofInt_natCast, BitVec.toNat_ofNat]; exact Nat.mod_eq_of_lt (by omega)
  show IntKind.u8.wrap ((BitVec.ofInt 8 (a : Int) ||| BitVec.ofInt 8 (b : Int)).toNat : Int) = _
  rw [BitVec.toNat_or, h1, h2, IntKind.wrap_u8]
  omega
theorem by8_low (bs : List Bool) (k : Nat) (hk : 7 - bs.length % 8 = k) : by8 bs (bs.length / 8) % 2 ^ (k + 1) = 0 := by
  have h8 : bs.length % 8 < 8 := Nat.mod_lt _ (by decide)
  have hl : 8 * (bs.length / 8) + bs.length % 8 = bs.length := Nat.div_add_mod _ _
  have hz : ∀ j, bs.length % 8 ≤ j → bi bs (8 * (bs.length / 8) + j) = 0 := fun j hj => bi_out bs _ (by omega)
  unfold by8
  generalize bs.length / 8 = q at *
  generalize hr : bs.length % 8 = r at *
  have z0 := hz 0; have z1 := hz 1; have z2 := hz 2; have z3 := hz 3; have z4 := hz 4; have z5 := hz 5; have z6 := hz 6; have z7 := hz 7
  simp only [Nat.add_zero] at z0
  rcases (by omega : r = 0 ∨ r = 1 ∨ r = 2 ∨ r = 3 ∨ r = 4 ∨ r = 5 ∨ r = 6 ∨ r = 7) with h | h | h | h | h | h | h | h <;> subst h <;> subst hk <;> simp only [Nat.reduceSub, Nat.reduceAdd, Nat.reducePow] <;> omega
theorem or_here (bs : List Bool) (k : Nat) (hk : 7 - bs.length % 8 = k) (b : Bool) (c : Nat) (hc : (if b then 1 else 0) = c) :
    by8 bs (bs.length / 8) ||| (c * 2 ^ k) = by8 (bs ++ [b]) (bs.length / 8) := by
  have h0 := by8_low bs k hk
  rw [by8_here, hc, hk]
  have hd := Nat.div_add_mod (by8 bs (bs.length / 8)) (2 ^ (k + 1))
  rw [h0, Nat.add_zero] at hd
  have hlt : c * 2 ^ k < 2 ^ (k + 1) := by
    rw [Nat.pow_succ]
    have : c ≤ 1 := by rw [← hc]; split <;> omega
    have hp : 0 < 2 ^ k := Nat.two_pow_pos k
    have : c * 2 ^ k ≤ 1 * 2 ^ k := Nat.mul_le_mul_right _ this
    omega
  rw [← hd, Nat.two_pow_add_eq_or_of_lt hlt]

structure Frm (w w' : World) (g : Nat) (r : Option Nat) : Prop where
  os : w'.os = w.os
  tape : w'.tape = w.tape
  output : w'.output = w.output
  size : w.heap.size ≤ w'.heap.size
  block : ∀ k, k < w.heap.size → k ≠ g → some k ≠ r → w'.heap[k]? = w.heap[k]?
section
variable {w w1 w2 : World} {g : Nat} {r r1 : Option Nat}
theorem Frm.refl (w : World) (g : Nat) (r : Option Nat) : Frm w w g r := ⟨rfl, rfl, rfl, Nat.le_refl _, fun _ _ _ _ => rfl⟩
theorem Frm.trans (h : Frm w w1 g r) (k : Frm w1 w2 g r1) (hr : r1 = r ∨ ∀ j, r1 = some j → w.heap.size ≤ j) : Frm w w2 g r :=
  ⟨k.os.trans h.os, k.tape.trans h.tape, k.output.trans h.output, Nat.le_trans h.size k.size, fun i hi hg hn => (k.block i (Nat.lt_of_lt_of_le hi h.size) hg (by
    rcases hr with rfl | hr
    · exact hn
    · intro e; have := hr i e.symm; omega)).trans (h.block i hi hg hn)⟩
theorem Frm.grown (h : Frm w w1 g r) (k : w1.grownBy w2 r1) (hr : r1 = r ∨ r1 = some g ∨ ∀ j, r1 = some j → w.heap.size ≤ j) : Frm w w2 g r :=
  ⟨k.os.trans h.os, k.tape.trans h.tape, k.output.trans h.output, Nat.le_trans h.size k.size, fun i hi hg hn => (k.block i (Nat.lt_of_lt_of_le hi h.size) (by
    rcases hr with rfl | rfl | hr
    · exact hn
    · intro e; injection e with e; exact hg e
    · intro e; have := hr i e.symm; omega)).trans (h.block i hi hg hn)⟩
end

/-- Block g is a writer that has these bits; v is its row. -/
structure Wr (w : World) (g : Nat) (T : TypeId) (more : List Value) (bs : List Bool) (v : Value) : Prop where
  blk : Blk w g T (v :: .int .i64 bs.length :: more).toArray
  row : w.ownsRow 0 5 1 v ((bs.length + 7) / 8) ((pk bs ((bs.length + 7) / 8)).map bv)
  ne : v.ownBlock ≠ some g

theorem ownsRow_other {w : World} {base : Nat} {e : TypeId} {size : Nat} {v : Value} {n : Nat} {xs : List Value} (h : w.ownsRow base e size v n xs) {a : Addr} (ha : v.ownBlock ≠ some a.block) (u : Value) : (w.setCell a u).ownsRow base e size v n xs := by
  obtain ⟨h1, h2⟩ := h
  refine ⟨h1, ?_⟩
  rcases h2 with h2 | ⟨g, cap, cur, hv, hg, hh, r⟩
  · exact Or.inl h2
  · subst hv
    have hne : g ≠ a.block := fun e => ha (by rw [e]; rfl)
    exact Or.inr ⟨g, cap, cur, rfl, hg, by rw [Below.heap_setCell _ _ _ _ hne]; exact hh, r⟩

theorem cells_kept {A B : World} {row : Option Nat} (hg : A.grownBy B row) (hr : ∀ r, row = some r → ∃ o : Obj, A.heap[r]? = some o ∧ o.isCells = false) {k : Nat} {o : Obj} (ho : A.heap[k]? = some o) (hc : o.isCells = true) : B.heap[k]? = some o := by
  refine (hg.block k (Array.getElem?_eq_some_iff.1 ho).1 ?_).trans ho
  intro e
  obtain ⟨o', h1, h2⟩ := hr k e.symm
  rw [ho] at h1
  cases h1
  rw [hc] at h2
  cases h2
theorem Wr.kept {A B : World} {row : Option Nat} {g : Nat} {T : TypeId} {more : List Value} {bs : List Bool} {v : Value} (h : Wr A g T more bs v) (hg : A.grownBy B row) (hr : ∀ r, row = some r → ∃ o : Obj, A.heap[r]? = some o ∧ o.isCells = false) : Wr B g T more bs v := by
  refine ⟨cells_kept hg hr h.blk rfl, ⟨h.row.1, ?_⟩, h.ne⟩
  rcases h.row.2 with h2 | ⟨g', cap, cur, hv, hb, hh, hx⟩
  · exact .inl h2
  · exact .inr ⟨g', cap, cur, hv, hb, cells_kept hg hr hh rfl, hx⟩

theorem World.grownBy_setCell' (w : World) (g i : Nat) (u : Value) : w.grownBy (w.setCell ⟨g, i, none⟩ u) (some g) := only_put (World.grownBy.refl w _) i u
theorem Blk.other {w : World} {k g : Nat} {t : TypeId} {cs : Array Value} (h : Blk w k t cs) (i : Nat) (u : Value) (hne : k ≠ g) : Blk (w.setCell ⟨g, i, none⟩ u) k t cs :=
  (Below.heap_setCell w ⟨g, i, none⟩ u k hne).trans h
theorem Frm.keepsFrom {W Z : World} {g B base e n : Nat} {v : Value} {xs : List Value} (h : Frm W Z g v.ownBlock) (hrow : W.ownsRow base e 1 v n xs) (hB : g < B) : KeepsFrom B W Z :=
  ⟨h.size, fun k o hk ho hc => (h.block k (Array.getElem?_eq_some_iff.1 ho).1 (by omega) (fun e => by
    rcases hrow.2 with ⟨hv, _⟩ | ⟨g', cap, cur, hv, hb, hh, _⟩
    · subst hv; cases e
    · subst hv; injection e with e
      simp at e; subst e
      rw [ho] at hh; cases hh; cases hc)).trans ho⟩
theorem Frm.kp {W Z : World} {g B1 B2 : Nat} {r : Option Nat} (h : Frm W Z g r) (h1 : B1 ≠ g ∧ some B1 ≠ r) (h2 : B2 ≠ g ∧ some B2 ≠ r) : Kp B1 B2 W Z := fun k o hk ho =>
  (h.block k (Array.getElem?_eq_some_iff.1 ho).1 (by rcases hk with rfl | rfl; exact h1.1; exact h2.1) (by rcases hk with rfl | rfl; exact h1.2; exact h2.2)).trans ho
theorem pk_set (bs : List Bool) (b : Bool) (q : Nat) (hq : bs.length / 8 = q) : ((pk bs (q + 1)).map bv).set q (.int .u8 (by8 (bs ++ [b]) q : Nat)) = (pk (bs ++ [b]) (q + 1)).map bv := by
  unfold pk
  rw [List.range_succ]
  simp only [List.map_append, List.map_cons, List.map_nil]
  rw [List.set_append_right _ _ (by simp)]
  simp only [List.length_map, List.length_range, Nat.sub_self, List.set_cons_zero]
  congr 1
  refine List.ext_getElem? fun i => ?_
  simp only [List.getElem?_map]
  by_cases hi : i < q
  · rw [List.getElem?_range hi]
    simp only [Option.map_some]
    rw [by8_other bs b i (by omega)]
  · have e : (List.range q)[i]? = none := List.getElem?_eq_none (by simpa using Nat.le_of_not_lt hi)
    rw [e]; rfl
theorem Tryz.info5 : (Tryz.prog.info? 5).map (fun i => (i.zero, i.size, i.bytes)) = some (some (.int .u8 0), 1, 1) := by kernel_rfl

/-- Where Put's round stands. -/
structure St (w W : World) (g : Nat) (T : TypeId) (more : List Value) (B1 Bg : Nat) (bs : List Bool) (v0 v : Value) : Prop where
  wr : Wr W g T more bs v
  box : Blk W Bg 106 #[.pointer (some ⟨g, 0, none⟩)]
  row : v.ownBlock = v0.ownBlock ∨ ∀ k, v.ownBlock = some k → B1 ≤ k
  frm : Frm w W g v0.ownBlock
  big : B1 ≤ W.heap.size

theorem St.kept {w A B : World} {row : Option Nat} {g : Nat} {T : TypeId} {more : List Value} {B1 Bg : Nat} {bs : List Bool} {v0 v : Value} (h : St w A g T more B1 Bg bs v0 v) (hg : A.grownBy B row) (hB : w.heap.size ≤ B1) (hr : ∀ r, row = some r → B1 ≤ r ∧ ∃ o : Obj, A.heap[r]? = some o ∧ o.isCells = false) : St w B g T more B1 Bg bs v0 v :=
  ⟨h.wr.kept hg (fun r e => (hr r e).2), cells_kept hg (fun r e => (hr r e).2) h.box rfl, h.row, h.frm.grown hg (.inr (.inr fun j e => Nat.le_trans hB (hr j e).1)), Nat.le_trans h.big hg.size⟩

def PR (g : Nat) (T : TypeId) (more : List Value) (N : Nat) (x : Int) (y : Bool) (L B0 : Nat) (v : Value) (bs : List Bool) (W : World) (a' : Act) (X : World) : Prop := ∃ B t18 t19 t20 t21 t22 t23 t24 t25 t26 r c, a' = { tmps := #[.pointer (some ⟨g, 0, none⟩), .int .u64 N, .int .i64 x, .pointer (some ⟨B0, 0, none⟩), undef, undef, bt y, .int .u64 N, .int .i64 x, .int .i64 (inn x), .func (.func 243) #[] #[.pointer (some ⟨B0 + 1 + 1, 0, none⟩), .pointer (some ⟨B0 + 1, 0, none⟩)], bt y, .pointer (some ⟨g, 0, none⟩), .pointer (some ⟨g, 0, none⟩), .pointer (some ⟨g, 1, none⟩), .int .i64 L, .int .i64 ((L:Int) % 8), .bool B, t18, t19, t20, t21, t22, t23, t24, t25, t26, undef, undef, undef, undef, undef, undef, undef, undef, undef, undef, undef, undef, undef, undef, undef, undef, undef, undef, undef, undef, undef, undef, undef, undef, undef, undef, undef, undef], defers := [] } ∧ Blk X g T (.slice (some ⟨r, 0, none⟩) (L / 8 + 1) c :: .int .i64 L :: more).toArray ∧
        X.ownsRow 0 5 1 (.slice (some ⟨r, 0, none⟩) (L / 8 + 1) c) (L / 8 + 1) ((pk bs (L / 8 + 1)).map bv) ∧ Blk X B0 106 #[.pointer (some ⟨g, 0, none⟩)] ∧ (v.ownBlock = some r ∨ W.heap.size ≤ r) ∧ Frm W X g v.ownBlock

set_option maxRecDepth 100000 in
set_option maxHeartbeats 2000000 in
/-- **Put**: the number's lowest bits come behind all. -/
theorem put_in (g : Nat) (T : TypeId) (more : List Value) (N : Nat) (x : Int) (hN : N < 18446744073709551616) (bs : List Bool) (hl : bs.length ≤ 1000000) (v0 : Value) (w : World) (hw : Wr w g T more bs v0) :
    CallsIn Fence.wide 3 Tryz.prog 105 #[.pointer (some ⟨g, 0, none⟩), .int .u64 N, .int .i64 x] w fun e w' => e = .returned (.tuple #[]) ∧
      ∃ v, Wr w' g T more (bs ++ hb N (inn x)) v ∧ (v.ownBlock = v0.ownBlock ∨ ∀ k, v.ownBlock = some k → w.heap.size ≤ k) ∧ Frm w w' g v0.ownBlock := by
  refine callsIn_of_wp_marks Tryz.func105 rfl trivial ?_ rfl
  simp only [Tryz.ntmps105, List.size_toArray, List.length_cons, List.length_nil, Nat.reduceAdd, Nat.reduceSub, Array.replicate_succ, Array.replicate_zero, List.push_toArray, List.append_toArray, List.nil_append, List.cons_append]
  gi_wp2_with (first
    | (refine ⟨trivial, ?_⟩; gi_at_call 179; refine (within_in 2 x _).mono ?_; rintro e w' ⟨rfl, rfl⟩)
    | (refine ⟨trivial, ?_⟩; gi_at_call 178; refine (high_in 2 N _ _).mono ?_; rintro e w' ⟨rfl, rfl⟩))
  have hg := hw.blk.lt
  have bX := Blk.new w 106 #[.pointer (some ⟨g, 0, none⟩)]
  obtain ⟨w1, hw1⟩ : ∃ w1, w.alloc (.cells #[.pointer (some ⟨g, 0, none⟩)] 106) = w1 := ⟨_, rfl⟩
  have hs1 : w1.heap.size = w.heap.size + 1 := by rw [← hw1, World.size_alloc]
  have f1 : w.grownBy w1 none := by rw [← hw1]; exact World.grownBy_alloc w _ none
  rw [hw1] at bX ⊢
  have b2 := (Blk.new w1 182 #[.int .u64 (N:Int)]).alloc (.cells #[.int .i64 (inn x)] 3)
  have b3 := Blk.new (w1.alloc (.cells #[.int .u64 (N:Int)] 182)) 3 #[.int .i64 (inn x)]
  have f2 : w1.grownBy ((w1.alloc (.cells #[.int .u64 (N:Int)] 182)).alloc (.cells #[.int .i64 (inn x)] 3)) none := only_trans (World.grownBy_alloc w1 _ none) (World.grownBy_alloc _ _ none)
  rw [World.size_alloc] at b3
  have bX2 := bX.grown f2 (by simp)
  obtain ⟨w2, hw2⟩ : ∃ w2, (w1.alloc (.cells #[.int .u64 (N:Int)] 182)).alloc (.cells #[.int .i64 (inn x)] 3) = w2 := ⟨_, rfl⟩
  have hs2 : w2.heap.size = w.heap.size + 3 := by rw [← hw2, World.size_alloc, World.size_alloc, hs1]
  rw [hw2] at b2 b3 f2 bX2 ⊢
  rw [hs1] at b2 b3
  have f3 := only_trans f1 f2
  have s0 : St w w2 g T more w2.heap.size w.heap.size bs v0 v0 := ⟨hw.kept f3 (by simp), bX2, .inl rfl, (Frm.refl w g _).grown f3 (.inr (.inr (by simp))), Nat.le_refl _⟩
  refine wpIn_rangeFunc_ownG rfl (by decide) (gf := 243) (lb := #[.pointer (some ⟨w.heap.size + 1 + 1, 0, none⟩), .pointer (some ⟨w.heap.size + 1, 0, none⟩)]) rfl trivial (enters_of Tryz.func243 (by kernel_rfl) rfl)
    (high_stops 2 (by decide) (w.heap.size + 1 + 1) (w.heap.size + 1) N (inn x) hN (inn_le x) w2 b3 b2) (fun h k j o hj ho => k j o hj (h j o hj ho))
    (fun W l o o' hl ho _ _ j oj hj hoj => (World.putObj_heap_other (by rcases hj with rfl | rfl <;> omega)).trans hoj) (Below.refl _ _) (fun _ => rfl)
    (fun pre W => ∃ v, St w W g T more w2.heap.size w.heap.size (bs ++ pre) v0 v)
    (fun _ _ _ => False)
    (fun s A B row hs hg hr => by obtain ⟨v, h⟩ := hs; exact ⟨v, h.kept hg (by omega) hr⟩)
    (fun _ _ _ _ _ hs _ _ => hs)
    ⟨v0, by rw [List.append_nil]; exact s0⟩
    (fun y => { tmps := #[.pointer (some ⟨g, 0, none⟩), .int .u64 N, .int .i64 x, .pointer (some ⟨w.heap.size, 0, none⟩), undef, undef, bt y, .int .u64 N, .int .i64 x, .int .i64 (inn x), .func (.func 243) #[] #[.pointer (some ⟨w.heap.size + 1 + 1, 0, none⟩), .pointer (some ⟨w.heap.size + 1, 0, none⟩)], bt y, undef, undef, undef, undef, undef, undef, undef, undef, undef, undef, undef, undef, undef, undef, undef, undef, undef, undef, undef, undef, undef, undef, undef, undef, undef, undef, undef, undef, undef, undef, undef, undef, undef, undef, undef, undef, undef, undef, undef, undef, undef, undef, undef], defers := [] }) ?assign ?body ?done ?stop
  case assign =>
    intro l x W K hK
    gi_wp2
    exact hK
  case body =>
    rintro l pre y W ⟨v, hS⟩ hlt
    obtain ⟨⟨hblk, hrow, hne0⟩, hbox, hown, hfrm, hbig⟩ := hS
    have HROW := Lib.hid hrow
    have HFRM := Lib.hid hfrm
    have hc0 := hblk.cell 0
    have hc1 := hblk.cell 1
    have hx0 := hbox.cell 0
    simp only [List.getElem?_toArray, List.getElem?_cons_zero, List.getElem?_cons_succ] at hc0 hc1 hx0
    obtain ⟨L, hL⟩ : ∃ L, (bs ++ pre).length = L := ⟨_, rfl⟩
    rw [hL] at hc1 hblk
    gi_wp2
    · have h8 : L % 8 = 0 := by
        have h : ((L : Int) % 8 == 0) = true := by assumption
        simp at h; omega
      have hq : (L + 7) / 8 = L / 8 := by omega
      rw [hL, hq] at hrow
      refine wpIn_region_round_post (Post := PR g T more N x y L w.heap.size v (bs ++ pre) W) (by kernel_rfl) (by kernel_rfl) ?post ?walk
      case walk =>
        obtain ⟨i0, hi, hz0, hz1, hz2⟩ := info_parts Tryz.info5
        have hne : some g ≠ v.ownBlock := fun e => hne0 e.symm
        have hsz : ((pk (bs ++ pre) (L / 8)).map bv ++ [.int .u8 0]) = (pk (bs ++ pre) (L / 8 + 1)).map bv := by
          have : by8 (bs ++ pre) (L / 8) = 0 := by8_out _ _ (by omega)
          simp [pk, List.range_succ, this, bv]
        have hne2 : some w.heap.size ≠ v.ownBlock := fun e => by
          rcases hown with h | h
          · rcases hw.row.2 with ⟨hv, _⟩ | ⟨g', cap, cur, hv, hb, hh, _⟩
            · subst hv; rw [h] at e; cases e
            · subst hv; rw [h] at e; injection e with e
              have := (Array.getElem?_eq_some_iff.1 hh).1
              simp at e; omega
          · have := h _ e.symm; omega
        have HN2 := Lib.hid hne2
        have HS := Lib.hid hsz
        have HN := Lib.hid hne
        have HR := Lib.hid hrow
        have HB := Lib.hid hblk
        have HX := Lib.hid hbox
        have HF := Lib.hid hfrm
        have hWs : g < W.heap.size := hblk.lt
        have hLl : L / 8 ≤ 200000 := by
          have := inn_le x
          rw [List.length_append] at hL
          omega
        clear hsz hne hne2 hrow hblk hbox hfrm hown hw bX bX2 b2 b3 s0 f1 f2 f3 hw2 hw1
        have HH : ∀ r c X, X.ownsRow 0 5 1 (.slice (some ⟨r, 0, none⟩) (L / 8 + 1) c) (L / 8 + 1) ((pk (bs ++ pre) (L / 8)).map bv ++ [.int .u8 0]) → (W.drew.alloc (.cells #[.int .u8 0] 5)).grownBy X v.ownBlock → (v.ownBlock = some r ∨ r = (W.drew.alloc (.cells #[.int .u8 0] 5)).heap.size) →
            Hid (Blk (X.setCell ⟨g, 0, none⟩ (.slice (some ⟨r, 0, none⟩) (L / 8 + 1) c)) g T (.slice (some ⟨r, 0, none⟩) (L / 8 + 1) c :: .int .i64 L :: more).toArray ∧ (X.setCell ⟨g, 0, none⟩ (.slice (some ⟨r, 0, none⟩) (L / 8 + 1) c)).ownsRow 0 5 1 (.slice (some ⟨r, 0, none⟩) (L / 8 + 1) c) (L / 8 + 1) ((pk (bs ++ pre) (L / 8 + 1)).map bv) ∧ Blk (X.setCell ⟨g, 0, none⟩ (.slice (some ⟨r, 0, none⟩) (L / 8 + 1) c)) w.heap.size 106 #[.pointer (some ⟨g, 0, none⟩)] ∧ (v.ownBlock = some r ∨ W.heap.size ≤ r) ∧ Frm W (X.setCell ⟨g, 0, none⟩ (.slice (some ⟨r, 0, none⟩) (L / 8 + 1) c)) g v.ownBlock) ∧
              X.cell? ⟨g, 0, none⟩ = some v ∧ X.frozen? ⟨g, 0, none⟩ = false ∧ X.cell? ⟨w.heap.size, 0, none⟩ = some (.pointer (some ⟨g, 0, none⟩)) := by
          intro r c X hown' hgrow hat
          have hb := (Blk.alloc (w := W.drew) HB.out (.cells #[.int .u8 0] 5)).grown hgrow HN.out
          have hbx := (Blk.alloc (w := W.drew) HX.out (.cells #[.int .u8 0] 5)).grown hgrow HN2.out
          have hG : W.grownBy X v.ownBlock := only_trans (b := W.drew.alloc (.cells #[.int .u8 0] 5)) ⟨rfl, rfl, rfl, by simp, fun k hk _ => Below.heap_alloc W.drew _ k hk⟩ hgrow
          rw [HS.out] at hown'
          have hrg : r ≠ g := by
            rcases hat with h | h
            · exact fun e => HN.out (by rw [h, e])
            · rw [h]; simp; omega
          refine ⟨Lib.hid ⟨hb.put 0 _, ownsRow_other hown' (fun e => hrg (by injection e)) _, Blk.other hbx _ _ (by omega), hat.imp id (fun e => by rw [e]; simp), ((Frm.refl W g _).grown hG (.inl rfl)).grown (World.grownBy_setCell' X g 0 _) (.inr (.inl rfl))⟩, by simpa using hb.cell 0, hb.free 0, by simpa using hbx.cell 0⟩
        have hA0 : (W.alloc (.cells #[.int .u8 0] 5)).cell? ⟨g, 0, none⟩ = some v := by simpa using (Blk.alloc HB.out (.cells #[.int .u8 0] 5)).cell 0
        have hAx : (W.alloc (.cells #[.int .u8 0] 5)).cell? ⟨w.heap.size, 0, none⟩ = some (.pointer (some ⟨g, 0, none⟩)) := by simpa using (Blk.alloc HX.out (.cells #[.int .u8 0] 5)).cell 0
        refine wpAny_ready (rs := [0, 1, 5]) (by kernel_rfl) (by simp) ?_
        refine AllReady.cons rfl (fun K hK => ?_) ?_
        · go_simp
          refine hK _ _ ?_
          clear hK K
          refine wpAny_ready (rs := [1, 5]) (by kernel_rfl) (by simp) ?_
          refine AllReady.cons rfl (fun K hK => ?_) ?_
          · go_simp
            refine hK _ _ ?_
            clear hK K
            refine wpAny_take (i := 2) (v := ?_) rfl (by kernel_rfl) (by kernel_rfl) (by kernel_rfl) (fun _ _ _ h => nomatch h.1) (Or.inl ⟨by rfl, ?_⟩) ?_
            rotate_left 1
            · (intro w; go_simp; try with_reducible rfl)
            refine wpAny_take (i := 3) (v := ?_) rfl (by kernel_rfl) (by kernel_rfl) (by kernel_rfl) (fun _ _ _ h => nomatch h.1) (Or.inl ⟨by rfl, ?_⟩) ?_
            rotate_left 1
            · (intro w; go_simp; try with_reducible rfl)
            refine wpAny_ready (rs := [4, 5]) (by kernel_rfl) (by simp) ?_
            refine AllReady.cons rfl (fun K hK => ?_) ?_
            · go_simp
              refine hK _ _ ?_
              clear hK K
              refine wpAny_ready (rs := [5]) (by kernel_rfl) (by simp) ?_
              refine AllReady.cons rfl (fun K hK => ?_) ?_
              · go_simp
                refine hK _ _ ?_
                clear hK K
                refine wpAny_ready (rs := [6]) (by kernel_rfl) (by simp) ?_
                refine AllReady.cons rfl (fun K hK => ?_) ?_
                · refine step_append_lies (W.drew.alloc (.cells #[.int .u8 0] 5)) rfl (.tmp 22) (.tmp 23) 29 rfl 0 5 i0 (.int .u8 0) 1 1 Tryz.underlying29 hi hz0 hz1 hz2 rfl (by decide) v (L / 8) _ rfl (HR.out.alloc _) ⟨W.heap.size, 0, none⟩ 1 1 [.int .u8 0] rfl rfl (cell_one_new _ _ _) (by simp [Value.oneCell']) (by decide) (by simp only [maxLen]; omega) (by omega) (by simp) _ rfl ?_
                  intro r c X hown' hgrow hat hlt'
                  obtain ⟨HL, hd0, hd1, hdx⟩ := HH r c X hown' hgrow hat
                  clear hown' hgrow hat
                  try go_simp
                  refine hK _ _ ?_
                  clear hK K
                  refine wpAny_take (i := 7) (v := ?_) rfl (by kernel_rfl) (by kernel_rfl) (by kernel_rfl) (fun _ _ _ h => nomatch h.1) (Or.inl ⟨by rfl, ?_⟩) ?_
                  rotate_left 1
                  · (intro w; go_simp; try with_reducible rfl)
                  refine wpAny_take (i := 8) (v := ?_) rfl (by kernel_rfl) (by kernel_rfl) (by kernel_rfl) (fun _ _ _ h => nomatch h.1) (Or.inl ⟨by rfl, ?_⟩) ?_
                  rotate_left 1
                  · (intro w; go_simp; try with_reducible rfl)
                  refine wpAny_ready (rs := [9]) (by kernel_rfl) (by simp) ?_
                  refine AllReady.cons rfl (fun K hK => ?_) ?_
                  · go_simp
                    refine hK _ _ ?_
                    clear hK K
                    refine wpAny_done (by kernel_rfl) ?_ _
                    exact ⟨rfl, _, _, _, _, _, _, _, _, _, _, _, _, rfl, HL.out⟩
                  exact AllReady.nil
                exact AllReady.nil
              exact AllReady.nil
            refine AllReady.cons rfl (fun K hK => ?_) ?_
            · go_simp
              refine hK _ _ ?_
              clear hK K
              refine wpAny_ready (rs := [4]) (by kernel_rfl) (by simp) ?_
              refine AllReady.cons rfl (fun K hK => ?_) ?_
              · go_simp
                refine hK _ _ ?_
                clear hK K
                refine wpAny_ready (rs := [6]) (by kernel_rfl) (by simp) ?_
                refine AllReady.cons rfl (fun K hK => ?_) ?_
                · refine step_append_lies (W.drew.alloc (.cells #[.int .u8 0] 5)) rfl (.tmp 22) (.tmp 23) 29 rfl 0 5 i0 (.int .u8 0) 1 1 Tryz.underlying29 hi hz0 hz1 hz2 rfl (by decide) v (L / 8) _ rfl (HR.out.alloc _) ⟨W.heap.size, 0, none⟩ 1 1 [.int .u8 0] rfl rfl (cell_one_new _ _ _) (by simp [Value.oneCell']) (by decide) (by simp only [maxLen]; omega) (by omega) (by simp) _ rfl ?_
                  intro r c X hown' hgrow hat hlt'
                  obtain ⟨HL, hd0, hd1, hdx⟩ := HH r c X hown' hgrow hat
                  clear hown' hgrow hat
                  try go_simp
                  refine hK _ _ ?_
                  clear hK K
                  refine wpAny_take (i := 7) (v := ?_) rfl (by kernel_rfl) (by kernel_rfl) (by kernel_rfl) (fun _ _ _ h => nomatch h.1) (Or.inl ⟨by rfl, ?_⟩) ?_
                  rotate_left 1
                  · (intro w; go_simp; try with_reducible rfl)
                  refine wpAny_take (i := 8) (v := ?_) rfl (by kernel_rfl) (by kernel_rfl) (by kernel_rfl) (fun _ _ _ h => nomatch h.1) (Or.inl ⟨by rfl, ?_⟩) ?_
                  rotate_left 1
                  · (intro w; go_simp; try with_reducible rfl)
                  refine wpAny_ready (rs := [9]) (by kernel_rfl) (by simp) ?_
                  refine AllReady.cons rfl (fun K hK => ?_) ?_
                  · go_simp
                    refine hK _ _ ?_
                    clear hK K
                    refine wpAny_done (by kernel_rfl) ?_ _
                    exact ⟨rfl, _, _, _, _, _, _, _, _, _, _, _, _, rfl, HL.out⟩
                  exact AllReady.nil
                exact AllReady.nil
              exact AllReady.nil
            exact AllReady.nil
          refine AllReady.cons rfl (fun K hK => ?_) ?_
          · go_simp
            refine hK _ _ ?_
            clear hK K
            refine wpAny_ready (rs := [1]) (by kernel_rfl) (by simp) ?_
            refine AllReady.cons rfl (fun K hK => ?_) ?_
            · go_simp
              refine hK _ _ ?_
              clear hK K
              refine wpAny_take (i := 2) (v := ?_) rfl (by kernel_rfl) (by kernel_rfl) (by kernel_rfl) (fun _ _ _ h => nomatch h.1) (Or.inl ⟨by rfl, ?_⟩) ?_
              rotate_left 1
              · (intro w; go_simp; try with_reducible rfl)
              refine wpAny_take (i := 3) (v := ?_) rfl (by kernel_rfl) (by kernel_rfl) (by kernel_rfl) (fun _ _ _ h => nomatch h.1) (Or.inl ⟨by rfl, ?_⟩) ?_
              rotate_left 1
              · (intro w; go_simp; try with_reducible rfl)
              refine wpAny_ready (rs := [4]) (by kernel_rfl) (by simp) ?_
              refine AllReady.cons rfl (fun K hK => ?_) ?_
              · go_simp
                refine hK _ _ ?_
                clear hK K
                refine wpAny_ready (rs := [6]) (by kernel_rfl) (by simp) ?_
                refine AllReady.cons rfl (fun K hK => ?_) ?_
                · refine step_append_lies (W.drew.alloc (.cells #[.int .u8 0] 5)) rfl (.tmp 22) (.tmp 23) 29 rfl 0 5 i0 (.int .u8 0) 1 1 Tryz.underlying29 hi hz0 hz1 hz2 rfl (by decide) v (L / 8) _ rfl (HR.out.alloc _) ⟨W.heap.size, 0, none⟩ 1 1 [.int .u8 0] rfl rfl (cell_one_new _ _ _) (by simp [Value.oneCell']) (by decide) (by simp only [maxLen]; omega) (by omega) (by simp) _ rfl ?_
                  intro r c X hown' hgrow hat hlt'
                  obtain ⟨HL, hd0, hd1, hdx⟩ := HH r c X hown' hgrow hat
                  clear hown' hgrow hat
                  try go_simp
                  refine hK _ _ ?_
                  clear hK K
                  refine wpAny_take (i := 7) (v := ?_) rfl (by kernel_rfl) (by kernel_rfl) (by kernel_rfl) (fun _ _ _ h => nomatch h.1) (Or.inl ⟨by rfl, ?_⟩) ?_
                  rotate_left 1
                  · (intro w; go_simp; try with_reducible rfl)
                  refine wpAny_take (i := 8) (v := ?_) rfl (by kernel_rfl) (by kernel_rfl) (by kernel_rfl) (fun _ _ _ h => nomatch h.1) (Or.inl ⟨by rfl, ?_⟩) ?_
                  rotate_left 1
                  · (intro w; go_simp; try with_reducible rfl)
                  refine wpAny_ready (rs := [9]) (by kernel_rfl) (by simp) ?_
                  refine AllReady.cons rfl (fun K hK => ?_) ?_
                  · go_simp
                    refine hK _ _ ?_
                    clear hK K
                    refine wpAny_done (by kernel_rfl) ?_ _
                    exact ⟨rfl, _, _, _, _, _, _, _, _, _, _, _, _, rfl, HL.out⟩
                  exact AllReady.nil
                exact AllReady.nil
              exact AllReady.nil
            exact AllReady.nil
          exact AllReady.nil
        refine AllReady.cons rfl (fun K hK => ?_) ?_
        · go_simp
          refine hK _ _ ?_
          clear hK K
          refine wpAny_take (i := 2) (v := ?_) rfl (by kernel_rfl) (by kernel_rfl) (by kernel_rfl) (fun _ _ _ h => nomatch h.1) (Or.inl ⟨by rfl, ?_⟩) ?_
          rotate_left 1
          · (intro w; go_simp; try with_reducible rfl)
          refine wpAny_take (i := 3) (v := ?_) rfl (by kernel_rfl) (by kernel_rfl) (by kernel_rfl) (fun _ _ _ h => nomatch h.1) (Or.inl ⟨by rfl, ?_⟩) ?_
          rotate_left 1
          · (intro w; go_simp; try with_reducible rfl)
          refine wpAny_ready (rs := [0, 4, 5]) (by kernel_rfl) (by simp) ?_
          refine AllReady.cons rfl (fun K hK => ?_) ?_
          · go_simp
            refine hK _ _ ?_
            clear hK K
            refine wpAny_ready (rs := [4, 5]) (by kernel_rfl) (by simp) ?_
            refine AllReady.cons rfl (fun K hK => ?_) ?_
            · go_simp
              refine hK _ _ ?_
              clear hK K
              refine wpAny_ready (rs := [5]) (by kernel_rfl) (by simp) ?_
              refine AllReady.cons rfl (fun K hK => ?_) ?_
              · go_simp
                refine hK _ _ ?_
                clear hK K
                refine wpAny_ready (rs := [6]) (by kernel_rfl) (by simp) ?_
                refine AllReady.cons rfl (fun K hK => ?_) ?_
                · refine step_append_lies (W.drew.alloc (.cells #[.int .u8 0] 5)) rfl (.tmp 22) (.tmp 23) 29 rfl 0 5 i0 (.int .u8 0) 1 1 Tryz.underlying29 hi hz0 hz1 hz2 rfl (by decide) v (L / 8) _ rfl (HR.out.alloc _) ⟨W.heap.size, 0, none⟩ 1 1 [.int .u8 0] rfl rfl (cell_one_new _ _ _) (by simp [Value.oneCell']) (by decide) (by simp only [maxLen]; omega) (by omega) (by simp) _ rfl ?_
                  intro r c X hown' hgrow hat hlt'
                  obtain ⟨HL, hd0, hd1, hdx⟩ := HH r c X hown' hgrow hat
                  clear hown' hgrow hat
                  try go_simp
                  refine hK _ _ ?_
                  clear hK K
                  refine wpAny_take (i := 7) (v := ?_) rfl (by kernel_rfl) (by kernel_rfl) (by kernel_rfl) (fun _ _ _ h => nomatch h.1) (Or.inl ⟨by rfl, ?_⟩) ?_
                  rotate_left 1
                  · (intro w; go_simp; try with_reducible rfl)
                  refine wpAny_take (i := 8) (v := ?_) rfl (by kernel_rfl) (by kernel_rfl) (by kernel_rfl) (fun _ _ _ h => nomatch h.1) (Or.inl ⟨by rfl, ?_⟩) ?_
                  rotate_left 1
                  · (intro w; go_simp; try with_reducible rfl)
                  refine wpAny_ready (rs := [9]) (by kernel_rfl) (by simp) ?_
                  refine AllReady.cons rfl (fun K hK => ?_) ?_
                  · go_simp
                    refine hK _ _ ?_
                    clear hK K
                    refine wpAny_done (by kernel_rfl) ?_ _
                    exact ⟨rfl, _, _, _, _, _, _, _, _, _, _, _, _, rfl, HL.out⟩
                  exact AllReady.nil
                exact AllReady.nil
              exact AllReady.nil
            refine AllReady.cons rfl (fun K hK => ?_) ?_
            · go_simp
              refine hK _ _ ?_
              clear hK K
              refine wpAny_ready (rs := [4]) (by kernel_rfl) (by simp) ?_
              refine AllReady.cons rfl (fun K hK => ?_) ?_
              · go_simp
                refine hK _ _ ?_
                clear hK K
                refine wpAny_ready (rs := [6]) (by kernel_rfl) (by simp) ?_
                refine AllReady.cons rfl (fun K hK => ?_) ?_
                · refine step_append_lies (W.drew.alloc (.cells #[.int .u8 0] 5)) rfl (.tmp 22) (.tmp 23) 29 rfl 0 5 i0 (.int .u8 0) 1 1 Tryz.underlying29 hi hz0 hz1 hz2 rfl (by decide) v (L / 8) _ rfl (HR.out.alloc _) ⟨W.heap.size, 0, none⟩ 1 1 [.int .u8 0] rfl rfl (cell_one_new _ _ _) (by simp [Value.oneCell']) (by decide) (by simp only [maxLen]; omega) (by omega) (by simp) _ rfl ?_
                  intro r c X hown' hgrow hat hlt'
                  obtain ⟨HL, hd0, hd1, hdx⟩ := HH r c X hown' hgrow hat
                  clear hown' hgrow hat
                  try go_simp
                  refine hK _ _ ?_
                  clear hK K
                  refine wpAny_take (i := 7) (v := ?_) rfl (by kernel_rfl) (by kernel_rfl) (by kernel_rfl) (fun _ _ _ h => nomatch h.1) (Or.inl ⟨by rfl, ?_⟩) ?_
                  rotate_left 1
                  · (intro w; go_simp; try with_reducible rfl)
                  refine wpAny_take (i := 8) (v := ?_) rfl (by kernel_rfl) (by kernel_rfl) (by kernel_rfl) (fun _ _ _ h => nomatch h.1) (Or.inl ⟨by rfl, ?_⟩) ?_
                  rotate_left 1
                  · (intro w; go_simp; try with_reducible rfl)
                  refine wpAny_ready (rs := [9]) (by kernel_rfl) (by simp) ?_
                  refine AllReady.cons rfl (fun K hK => ?_) ?_
                  · go_simp
                    refine hK _ _ ?_
                    clear hK K
                    refine wpAny_done (by kernel_rfl) ?_ _
                    exact ⟨rfl, _, _, _, _, _, _, _, _, _, _, _, _, rfl, HL.out⟩
                  exact AllReady.nil
                exact AllReady.nil
              exact AllReady.nil
            exact AllReady.nil
          refine AllReady.cons rfl (fun K hK => ?_) ?_
          · go_simp
            refine hK _ _ ?_
            clear hK K
            refine wpAny_ready (rs := [0, 5]) (by kernel_rfl) (by simp) ?_
            refine AllReady.cons rfl (fun K hK => ?_) ?_
            · go_simp
              refine hK _ _ ?_
              clear hK K
              refine wpAny_ready (rs := [5]) (by kernel_rfl) (by simp) ?_
              refine AllReady.cons rfl (fun K hK => ?_) ?_
              · go_simp
                refine hK _ _ ?_
                clear hK K
                refine wpAny_ready (rs := [6]) (by kernel_rfl) (by simp) ?_
                refine AllReady.cons rfl (fun K hK => ?_) ?_
                · refine step_append_lies (W.drew.alloc (.cells #[.int .u8 0] 5)) rfl (.tmp 22) (.tmp 23) 29 rfl 0 5 i0 (.int .u8 0) 1 1 Tryz.underlying29 hi hz0 hz1 hz2 rfl (by decide) v (L / 8) _ rfl (HR.out.alloc _) ⟨W.heap.size, 0, none⟩ 1 1 [.int .u8 0] rfl rfl (cell_one_new _ _ _) (by simp [Value.oneCell']) (by decide) (by simp only [maxLen]; omega) (by omega) (by simp) _ rfl ?_
                  intro r c X hown' hgrow hat hlt'
                  obtain ⟨HL, hd0, hd1, hdx⟩ := HH r c X hown' hgrow hat
                  clear hown' hgrow hat
                  try go_simp
                  refine hK _ _ ?_
                  clear hK K
                  refine wpAny_take (i := 7) (v := ?_) rfl (by kernel_rfl) (by kernel_rfl) (by kernel_rfl) (fun _ _ _ h => nomatch h.1) (Or.inl ⟨by rfl, ?_⟩) ?_
                  rotate_left 1
                  · (intro w; go_simp; try with_reducible rfl)
                  refine wpAny_take (i := 8) (v := ?_) rfl (by kernel_rfl) (by kernel_rfl) (by kernel_rfl) (fun _ _ _ h => nomatch h.1) (Or.inl ⟨by rfl, ?_⟩) ?_
                  rotate_left 1
                  · (intro w; go_simp; try with_reducible rfl)
                  refine wpAny_ready (rs := [9]) (by kernel_rfl) (by simp) ?_
                  refine AllReady.cons rfl (fun K hK => ?_) ?_
                  · go_simp
                    refine hK _ _ ?_
                    clear hK K
                    refine wpAny_done (by kernel_rfl) ?_ _
                    exact ⟨rfl, _, _, _, _, _, _, _, _, _, _, _, _, rfl, HL.out⟩
                  exact AllReady.nil
                exact AllReady.nil
              exact AllReady.nil
            refine AllReady.cons rfl (fun K hK => ?_) ?_
            · go_simp
              refine hK _ _ ?_
              clear hK K
              refine wpAny_ready (rs := [0, 6]) (by kernel_rfl) (by simp) ?_
              refine AllReady.cons rfl (fun K hK => ?_) ?_
              · go_simp
                refine hK _ _ ?_
                clear hK K
                refine wpAny_ready (rs := [6]) (by kernel_rfl) (by simp) ?_
                refine AllReady.cons rfl (fun K hK => ?_) ?_
                · refine step_append_lies (W.drew.alloc (.cells #[.int .u8 0] 5)) rfl (.tmp 22) (.tmp 23) 29 rfl 0 5 i0 (.int .u8 0) 1 1 Tryz.underlying29 hi hz0 hz1 hz2 rfl (by decide) v (L / 8) _ rfl (HR.out.alloc _) ⟨W.heap.size, 0, none⟩ 1 1 [.int .u8 0] rfl rfl (cell_one_new _ _ _) (by simp [Value.oneCell']) (by decide) (by simp only [maxLen]; omega) (by omega) (by simp) _ rfl ?_
                  intro r c X hown' hgrow hat hlt'
                  obtain ⟨HL, hd0, hd1, hdx⟩ := HH r c X hown' hgrow hat
                  clear hown' hgrow hat
                  try go_simp
                  refine hK _ _ ?_
                  clear hK K
                  refine wpAny_take (i := 7) (v := ?_) rfl (by kernel_rfl) (by kernel_rfl) (by kernel_rfl) (fun _ _ _ h => nomatch h.1) (Or.inl ⟨by rfl, ?_⟩) ?_
                  rotate_left 1
                  · (intro w; go_simp; try with_reducible rfl)
                  refine wpAny_take (i := 8) (v := ?_) rfl (by kernel_rfl) (by kernel_rfl) (by kernel_rfl) (fun _ _ _ h => nomatch h.1) (Or.inl ⟨by rfl, ?_⟩) ?_
                  rotate_left 1
                  · (intro w; go_simp; try with_reducible rfl)
                  refine wpAny_ready (rs := [9]) (by kernel_rfl) (by simp) ?_
                  refine AllReady.cons rfl (fun K hK => ?_) ?_
                  · go_simp
                    refine hK _ _ ?_
                    clear hK K
                    refine wpAny_done (by kernel_rfl) ?_ _
                    exact ⟨rfl, _, _, _, _, _, _, _, _, _, _, _, _, rfl, HL.out⟩
                  exact AllReady.nil
                exact AllReady.nil
              refine AllReady.cons rfl (fun K hK => ?_) ?_
              · refine step_append_lies (W.drew.alloc (.cells #[.int .u8 0] 5)) rfl (.tmp 22) (.tmp 23) 29 rfl 0 5 i0 (.int .u8 0) 1 1 Tryz.underlying29 hi hz0 hz1 hz2 rfl (by decide) v (L / 8) _ rfl (HR.out.alloc _) ⟨W.heap.size, 0, none⟩ 1 1 [.int .u8 0] rfl rfl (cell_one_new _ _ _) (by simp [Value.oneCell']) (by decide) (by simp only [maxLen]; omega) (by omega) (by simp) _ rfl ?_
                intro r c X hown' hgrow hat hlt'
                obtain ⟨HL, hd0, hd1, hdx⟩ := HH r c X hown' hgrow hat
                clear hown' hgrow hat
                try go_simp
                refine hK _ _ ?_
                clear hK K
                refine wpAny_ready (rs := [0]) (by kernel_rfl) (by simp) ?_
                refine AllReady.cons rfl (fun K hK => ?_) ?_
                · go_simp
                  refine hK _ _ ?_
                  clear hK K
                  refine wpAny_take (i := 7) (v := ?_) rfl (by kernel_rfl) (by kernel_rfl) (by kernel_rfl) (fun _ _ _ h => nomatch h.1) (Or.inl ⟨by rfl, ?_⟩) ?_
                  rotate_left 1
                  · (intro w; go_simp; try with_reducible rfl)
                  refine wpAny_take (i := 8) (v := ?_) rfl (by kernel_rfl) (by kernel_rfl) (by kernel_rfl) (fun _ _ _ h => nomatch h.1) (Or.inl ⟨by rfl, ?_⟩) ?_
                  rotate_left 1
                  · (intro w; go_simp; try with_reducible rfl)
                  refine wpAny_ready (rs := [9]) (by kernel_rfl) (by simp) ?_
                  refine AllReady.cons rfl (fun K hK => ?_) ?_
                  · go_simp
                    refine hK _ _ ?_
                    clear hK K
                    refine wpAny_done (by kernel_rfl) ?_ _
                    exact ⟨rfl, _, _, _, _, _, _, _, _, _, _, _, _, rfl, HL.out⟩
                  exact AllReady.nil
                exact AllReady.nil
              exact AllReady.nil
            exact AllReady.nil
          refine AllReady.cons rfl (fun K hK => ?_) ?_
          · go_simp
            refine hK _ _ ?_
            clear hK K
            refine wpAny_ready (rs := [0, 4]) (by kernel_rfl) (by simp) ?_
            refine AllReady.cons rfl (fun K hK => ?_) ?_
            · go_simp
              refine hK _ _ ?_
              clear hK K
              refine wpAny_ready (rs := [4]) (by kernel_rfl) (by simp) ?_
              refine AllReady.cons rfl (fun K hK => ?_) ?_
              · go_simp
                refine hK _ _ ?_
                clear hK K
                refine wpAny_ready (rs := [6]) (by kernel_rfl) (by simp) ?_
                refine AllReady.cons rfl (fun K hK => ?_) ?_
                · refine step_append_lies (W.drew.alloc (.cells #[.int .u8 0] 5)) rfl (.tmp 22) (.tmp 23) 29 rfl 0 5 i0 (.int .u8 0) 1 1 Tryz.underlying29 hi hz0 hz1 hz2 rfl (by decide) v (L / 8) _ rfl (HR.out.alloc _) ⟨W.heap.size, 0, none⟩ 1 1 [.int .u8 0] rfl rfl (cell_one_new _ _ _) (by simp [Value.oneCell']) (by decide) (by simp only [maxLen]; omega) (by omega) (by simp) _ rfl ?_
                  intro r c X hown' hgrow hat hlt'
                  obtain ⟨HL, hd0, hd1, hdx⟩ := HH r c X hown' hgrow hat
                  clear hown' hgrow hat
                  try go_simp
                  refine hK _ _ ?_
                  clear hK K
                  refine wpAny_take (i := 7) (v := ?_) rfl (by kernel_rfl) (by kernel_rfl) (by kernel_rfl) (fun _ _ _ h => nomatch h.1) (Or.inl ⟨by rfl, ?_⟩) ?_
                  rotate_left 1
                  · (intro w; go_simp; try with_reducible rfl)
                  refine wpAny_take (i := 8) (v := ?_) rfl (by kernel_rfl) (by kernel_rfl) (by kernel_rfl) (fun _ _ _ h => nomatch h.1) (Or.inl ⟨by rfl, ?_⟩) ?_
                  rotate_left 1
                  · (intro w; go_simp; try with_reducible rfl)
                  refine wpAny_ready (rs := [9]) (by kernel_rfl) (by simp) ?_
                  refine AllReady.cons rfl (fun K hK => ?_) ?_
                  · go_simp
                    refine hK _ _ ?_
                    clear hK K
                    refine wpAny_done (by kernel_rfl) ?_ _
                    exact ⟨rfl, _, _, _, _, _, _, _, _, _, _, _, _, rfl, HL.out⟩
                  exact AllReady.nil
                exact AllReady.nil
              exact AllReady.nil
            refine AllReady.cons rfl (fun K hK => ?_) ?_
            · go_simp
              refine hK _ _ ?_
              clear hK K
              refine wpAny_ready (rs := [0, 6]) (by kernel_rfl) (by simp) ?_
              refine AllReady.cons rfl (fun K hK => ?_) ?_
              · go_simp
                refine hK _ _ ?_
                clear hK K
                refine wpAny_ready (rs := [6]) (by kernel_rfl) (by simp) ?_
                refine AllReady.cons rfl (fun K hK => ?_) ?_
                · refine step_append_lies (W.drew.alloc (.cells #[.int .u8 0] 5)) rfl (.tmp 22) (.tmp 23) 29 rfl 0 5 i0 (.int .u8 0) 1 1 Tryz.underlying29 hi hz0 hz1 hz2 rfl (by decide) v (L / 8) _ rfl (HR.out.alloc _) ⟨W.heap.size, 0, none⟩ 1 1 [.int .u8 0] rfl rfl (cell_one_new _ _ _) (by simp [Value.oneCell']) (by decide) (by simp only [maxLen]; omega) (by omega) (by simp) _ rfl ?_
                  intro r c X hown' hgrow hat hlt'
                  obtain ⟨HL, hd0, hd1, hdx⟩ := HH r c X hown' hgrow hat
                  clear hown' hgrow hat
                  try go_simp
                  refine hK _ _ ?_
                  clear hK K
                  refine wpAny_take (i := 7) (v := ?_) rfl (by kernel_rfl) (by kernel_rfl) (by kernel_rfl) (fun _ _ _ h => nomatch h.1) (Or.inl ⟨by rfl, ?_⟩) ?_
                  rotate_left 1
                  · (intro w; go_simp; try with_reducible rfl)
                  refine wpAny_take (i := 8) (v := ?_) rfl (by kernel_rfl) (by kernel_rfl) (by kernel_rfl) (fun _ _ _ h => nomatch h.1) (Or.inl ⟨by rfl, ?_⟩) ?_
                  rotate_left 1
                  · (intro w; go_simp; try with_reducible rfl)
                  refine wpAny_ready (rs := [9]) (by kernel_rfl) (by simp) ?_
                  refine AllReady.cons rfl (fun K hK => ?_) ?_
                  · go_simp
                    refine hK _ _ ?_
                    clear hK K
                    refine wpAny_done (by kernel_rfl) ?_ _
                    exact ⟨rfl, _, _, _, _, _, _, _, _, _, _, _, _, rfl, HL.out⟩
                  exact AllReady.nil
                exact AllReady.nil
              refine AllReady.cons rfl (fun K hK => ?_) ?_
              · refine step_append_lies (W.drew.alloc (.cells #[.int .u8 0] 5)) rfl (.tmp 22) (.tmp 23) 29 rfl 0 5 i0 (.int .u8 0) 1 1 Tryz.underlying29 hi hz0 hz1 hz2 rfl (by decide) v (L / 8) _ rfl (HR.out.alloc _) ⟨W.heap.size, 0, none⟩ 1 1 [.int .u8 0] rfl rfl (cell_one_new _ _ _) (by simp [Value.oneCell']) (by decide) (by simp only [maxLen]; omega) (by omega) (by simp) _ rfl ?_
                intro r c X hown' hgrow hat hlt'
                obtain ⟨HL, hd0, hd1, hdx⟩ := HH r c X hown' hgrow hat
                clear hown' hgrow hat
                try go_simp
                refine hK _ _ ?_
                clear hK K
                refine wpAny_ready (rs := [0]) (by kernel_rfl) (by simp) ?_
                refine AllReady.cons rfl (fun K hK => ?_) ?_
                · go_simp
                  refine hK _ _ ?_
                  clear hK K
                  refine wpAny_take (i := 7) (v := ?_) rfl (by kernel_rfl) (by kernel_rfl) (by kernel_rfl) (fun _ _ _ h => nomatch h.1) (Or.inl ⟨by rfl, ?_⟩) ?_
                  rotate_left 1
                  · (intro w; go_simp; try with_reducible rfl)
                  refine wpAny_take (i := 8) (v := ?_) rfl (by kernel_rfl) (by kernel_rfl) (by kernel_rfl) (fun _ _ _ h => nomatch h.1) (Or.inl ⟨by rfl, ?_⟩) ?_
                  rotate_left 1
                  · (intro w; go_simp; try with_reducible rfl)
                  refine wpAny_ready (rs := [9]) (by kernel_rfl) (by simp) ?_
                  refine AllReady.cons rfl (fun K hK => ?_) ?_
                  · go_simp
                    refine hK _ _ ?_
                    clear hK K
                    refine wpAny_done (by kernel_rfl) ?_ _
                    exact ⟨rfl, _, _, _, _, _, _, _, _, _, _, _, _, rfl, HL.out⟩
                  exact AllReady.nil
                exact AllReady.nil
              exact AllReady.nil
            exact AllReady.nil
          exact AllReady.nil
        refine AllReady.cons rfl (fun K hK => ?_) ?_
        · go_simp
          refine hK _ _ ?_
          clear hK K
          refine wpAny_ready (rs := [0, 1]) (by kernel_rfl) (by simp) ?_
          refine AllReady.cons rfl (fun K hK => ?_) ?_
          · go_simp
            refine hK _ _ ?_
            clear hK K
            refine wpAny_ready (rs := [1]) (by kernel_rfl) (by simp) ?_
            refine AllReady.cons rfl (fun K hK => ?_) ?_
            · go_simp
              refine hK _ _ ?_
              clear hK K
              refine wpAny_take (i := 2) (v := ?_) rfl (by kernel_rfl) (by kernel_rfl) (by kernel_rfl) (fun _ _ _ h => nomatch h.1) (Or.inl ⟨by rfl, ?_⟩) ?_
              rotate_left 1
              · (intro w; go_simp; try with_reducible rfl)
              refine wpAny_take (i := 3) (v := ?_) rfl (by kernel_rfl) (by kernel_rfl) (by kernel_rfl) (fun _ _ _ h => nomatch h.1) (Or.inl ⟨by rfl, ?_⟩) ?_
              rotate_left 1
              · (intro w; go_simp; try with_reducible rfl)
              refine wpAny_ready (rs := [4]) (by kernel_rfl) (by simp) ?_
              refine AllReady.cons rfl (fun K hK => ?_) ?_
              · go_simp
                refine hK _ _ ?_
                clear hK K
                refine wpAny_ready (rs := [6]) (by kernel_rfl) (by simp) ?_
                refine AllReady.cons rfl (fun K hK => ?_) ?_
                · refine step_append_lies (W.drew.alloc (.cells #[.int .u8 0] 5)) rfl (.tmp 22) (.tmp 23) 29 rfl 0 5 i0 (.int .u8 0) 1 1 Tryz.underlying29 hi hz0 hz1 hz2 rfl (by decide) v (L / 8) _ rfl (HR.out.alloc _) ⟨W.heap.size, 0, none⟩ 1 1 [.int .u8 0] rfl rfl (cell_one_new _ _ _) (by simp [Value.oneCell']) (by decide) (by simp only [maxLen]; omega) (by omega) (by simp) _ rfl ?_
                  intro r c X hown' hgrow hat hlt'
                  obtain ⟨HL, hd0, hd1, hdx⟩ := HH r c X hown' hgrow hat
                  clear hown' hgrow hat
                  try go_simp
                  refine hK _ _ ?_
                  clear hK K
                  refine wpAny_take (i := 7) (v := ?_) rfl (by kernel_rfl) (by kernel_rfl) (by kernel_rfl) (fun _ _ _ h => nomatch h.1) (Or.inl ⟨by rfl, ?_⟩) ?_
                  rotate_left 1
                  · (intro w; go_simp; try with_reducible rfl)
                  refine wpAny_take (i := 8) (v := ?_) rfl (by kernel_rfl) (by kernel_rfl) (by kernel_rfl) (fun _ _ _ h => nomatch h.1) (Or.inl ⟨by rfl, ?_⟩) ?_
                  rotate_left 1
                  · (intro w; go_simp; try with_reducible rfl)
                  refine wpAny_ready (rs := [9]) (by kernel_rfl) (by simp) ?_
                  refine AllReady.cons rfl (fun K hK => ?_) ?_
                  · go_simp
                    refine hK _ _ ?_
                    clear hK K
                    refine wpAny_done (by kernel_rfl) ?_ _
                    exact ⟨rfl, _, _, _, _, _, _, _, _, _, _, _, _, rfl, HL.out⟩
                  exact AllReady.nil
                exact AllReady.nil
              exact AllReady.nil
            exact AllReady.nil
          refine AllReady.cons rfl (fun K hK => ?_) ?_
          · go_simp
            refine hK _ _ ?_
            clear hK K
            refine wpAny_take (i := 2) (v := ?_) rfl (by kernel_rfl) (by kernel_rfl) (by kernel_rfl) (fun _ _ _ h => nomatch h.1) (Or.inl ⟨by rfl, ?_⟩) ?_
            rotate_left 1
            · (intro w; go_simp; try with_reducible rfl)
            refine wpAny_take (i := 3) (v := ?_) rfl (by kernel_rfl) (by kernel_rfl) (by kernel_rfl) (fun _ _ _ h => nomatch h.1) (Or.inl ⟨by rfl, ?_⟩) ?_
            rotate_left 1
            · (intro w; go_simp; try with_reducible rfl)
            refine wpAny_ready (rs := [0, 4]) (by kernel_rfl) (by simp) ?_
            refine AllReady.cons rfl (fun K hK => ?_) ?_
            · go_simp
              refine hK _ _ ?_
              clear hK K
              refine wpAny_ready (rs := [4]) (by kernel_rfl) (by simp) ?_
              refine AllReady.cons rfl (fun K hK => ?_) ?_
              · go_simp
                refine hK _ _ ?_
                clear hK K
                refine wpAny_ready (rs := [6]) (by kernel_rfl) (by simp) ?_
                refine AllReady.cons rfl (fun K hK => ?_) ?_
                · refine step_append_lies (W.drew.alloc (.cells #[.int .u8 0] 5)) rfl (.tmp 22) (.tmp 23) 29 rfl 0 5 i0 (.int .u8 0) 1 1 Tryz.underlying29 hi hz0 hz1 hz2 rfl (by decide) v (L / 8) _ rfl (HR.out.alloc _) ⟨W.heap.size, 0, none⟩ 1 1 [.int .u8 0] rfl rfl (cell_one_new _ _ _) (by simp [Value.oneCell']) (by decide) (by simp only [maxLen]; omega) (by omega) (by simp) _ rfl ?_
                  intro r c X hown' hgrow hat hlt'
                  obtain ⟨HL, hd0, hd1, hdx⟩ := HH r c X hown' hgrow hat
                  clear hown' hgrow hat
                  try go_simp
                  refine hK _ _ ?_
                  clear hK K
                  refine wpAny_take (i := 7) (v := ?_) rfl (by kernel_rfl) (by kernel_rfl) (by kernel_rfl) (fun _ _ _ h => nomatch h.1) (Or.inl ⟨by rfl, ?_⟩) ?_
                  rotate_left 1
                  · (intro w; go_simp; try with_reducible rfl)
                  refine wpAny_take (i := 8) (v := ?_) rfl (by kernel_rfl) (by kernel_rfl) (by kernel_rfl) (fun _ _ _ h => nomatch h.1) (Or.inl ⟨by rfl, ?_⟩) ?_
                  rotate_left 1
                  · (intro w; go_simp; try with_reducible rfl)
                  refine wpAny_ready (rs := [9]) (by kernel_rfl) (by simp) ?_
                  refine AllReady.cons rfl (fun K hK => ?_) ?_
                  · go_simp
                    refine hK _ _ ?_
                    clear hK K
                    refine wpAny_done (by kernel_rfl) ?_ _
                    exact ⟨rfl, _, _, _, _, _, _, _, _, _, _, _, _, rfl, HL.out⟩
                  exact AllReady.nil
                exact AllReady.nil
              exact AllReady.nil
            refine AllReady.cons rfl (fun K hK => ?_) ?_
            · go_simp
              refine hK _ _ ?_
              clear hK K
              refine wpAny_ready (rs := [0, 6]) (by kernel_rfl) (by simp) ?_
              refine AllReady.cons rfl (fun K hK => ?_) ?_
              · go_simp
                refine hK _ _ ?_
                clear hK K
                refine wpAny_ready (rs := [6]) (by kernel_rfl) (by simp) ?_
                refine AllReady.cons rfl (fun K hK => ?_) ?_
                · refine step_append_lies (W.drew.alloc (.cells #[.int .u8 0] 5)) rfl (.tmp 22) (.tmp 23) 29 rfl 0 5 i0 (.int .u8 0) 1 1 Tryz.underlying29 hi hz0 hz1 hz2 rfl (by decide) v (L / 8) _ rfl (HR.out.alloc _) ⟨W.heap.size, 0, none⟩ 1 1 [.int .u8 0] rfl rfl (cell_one_new _ _ _) (by simp [Value.oneCell']) (by decide) (by simp only [maxLen]; omega) (by omega) (by simp) _ rfl ?_
                  intro r c X hown' hgrow hat hlt'
                  obtain ⟨HL, hd0, hd1, hdx⟩ := HH r c X hown' hgrow hat
                  clear hown' hgrow hat
                  try go_simp
                  refine hK _ _ ?_
                  clear hK K
                  refine wpAny_take (i := 7) (v := ?_) rfl (by kernel_rfl) (by kernel_rfl) (by kernel_rfl) (fun _ _ _ h => nomatch h.1) (Or.inl ⟨by rfl, ?_⟩) ?_
                  rotate_left 1
                  · (intro w; go_simp; try with_reducible rfl)
                  refine wpAny_take (i := 8) (v := ?_) rfl (by kernel_rfl) (by kernel_rfl) (by kernel_rfl) (fun _ _ _ h => nomatch h.1) (Or.inl ⟨by rfl, ?_⟩) ?_
                  rotate_left 1
                  · (intro w; go_simp; try with_reducible rfl)
                  refine wpAny_ready (rs := [9]) (by kernel_rfl) (by simp) ?_
                  refine AllReady.cons rfl (fun K hK => ?_) ?_
                  · go_simp
                    refine hK _ _ ?_
                    clear hK K
                    refine wpAny_done (by kernel_rfl) ?_ _
                    exact ⟨rfl, _, _, _, _, _, _, _, _, _, _, _, _, rfl, HL.out⟩
                  exact AllReady.nil
                exact AllReady.nil
              refine AllReady.cons rfl (fun K hK => ?_) ?_
              · refine step_append_lies (W.drew.alloc (.cells #[.int .u8 0] 5)) rfl (.tmp 22) (.tmp 23) 29 rfl 0 5 i0 (.int .u8 0) 1 1 Tryz.underlying29 hi hz0 hz1 hz2 rfl (by decide) v (L / 8) _ rfl (HR.out.alloc _) ⟨W.heap.size, 0, none⟩ 1 1 [.int .u8 0] rfl rfl (cell_one_new _ _ _) (by simp [Value.oneCell']) (by decide) (by simp only [maxLen]; omega) (by omega) (by simp) _ rfl ?_
                intro r c X hown' hgrow hat hlt'
                obtain ⟨HL, hd0, hd1, hdx⟩ := HH r c X hown' hgrow hat
                clear hown' hgrow hat
                try go_simp
                refine hK _ _ ?_
                clear hK K
                refine wpAny_ready (rs := [0]) (by kernel_rfl) (by simp) ?_
                refine AllReady.cons rfl (fun K hK => ?_) ?_
                · go_simp
                  refine hK _ _ ?_
                  clear hK K
                  refine wpAny_take (i := 7) (v := ?_) rfl (by kernel_rfl) (by kernel_rfl) (by kernel_rfl) (fun _ _ _ h => nomatch h.1) (Or.inl ⟨by rfl, ?_⟩) ?_
                  rotate_left 1
                  · (intro w; go_simp; try with_reducible rfl)
                  refine wpAny_take (i := 8) (v := ?_) rfl (by kernel_rfl) (by kernel_rfl) (by kernel_rfl) (fun _ _ _ h => nomatch h.1) (Or.inl ⟨by rfl, ?_⟩) ?_
                  rotate_left 1
                  · (intro w; go_simp; try with_reducible rfl)
                  refine wpAny_ready (rs := [9]) (by kernel_rfl) (by simp) ?_
                  refine AllReady.cons rfl (fun K hK => ?_) ?_
                  · go_simp
                    refine hK _ _ ?_
                    clear hK K
                    refine wpAny_done (by kernel_rfl) ?_ _
                    exact ⟨rfl, _, _, _, _, _, _, _, _, _, _, _, _, rfl, HL.out⟩
                  exact AllReady.nil
                exact AllReady.nil
              exact AllReady.nil
            exact AllReady.nil
          exact AllReady.nil
        exact AllReady.nil
      case post =>
        rintro a' X ⟨B, t18, t19, t20, t21, t22, t23, t24, t25, t26, r, c, rfl, hb, hrow, hbx, hat, hf⟩
        have hgr0 : g ≠ r := by
          rcases hat with h | h
          · exact fun e => hne0 (by rw [h, e])
          · have := hblk.lt; omega
        have c0 := hb.cell 0
        have c1 := hb.cell 1
        have cx := hbx.cell 0
        simp only [List.getElem?_toArray, List.getElem?_cons_zero, List.getElem?_cons_succ] at c0 c1 cx
        have fr := hb.free 1
        have cr : X.cell? ⟨r, L / 8, none⟩ = some (.int .u8 (by8 (bs ++ pre) (L / 8) : Nat)) := by
          rw [hrow.cellAt (L / 8) (by omega)]
          simp [pk, bv]
        have ff := hrow.frozenAt (L / 8)
        have hLl : L ≤ 1000064 := by
          have := inn_le x
          rw [List.length_append] at hL
          omega
        have e1 : IntKind.i64.wrap ((L : Int) / 8) = ((L / 8 : Nat) : Int) := by rw [IntWalk.i64_in _ (by omega)]; simp
        have e3 : IntKind.i64.wrap (7 - (L : Int) % 8) = ((7 - L % 8 : Nat) : Int) := by rw [IntWalk.i64_in _ (by omega)]; omega
        have e4 : IntKind.i64.wrap (7 - (L : Int).tmod 8) = ((7 - L % 8 : Nat) : Int) := by rw [Int.tmod_eq_emod_of_nonneg (by omega)]; exact e3
        obtain ⟨q, hqL⟩ : ∃ q, L / 8 = q := ⟨_, rfl⟩
        obtain ⟨k, hkL⟩ : ∃ k, 7 - L % 8 = k := ⟨_, rfl⟩
        obtain ⟨cy, hcy⟩ : ∃ cy : Nat, (if y then 1 else 0) = cy := ⟨_, rfl⟩
        have hby : bt y = .int .u8 cy := by unfold bt; rw [← hcy]; split <;> rfl
        rw [hqL] at cr ff hrow e1 c0 hb
        rw [hkL] at e3 e4
        have hk7 : k ≤ 7 := by omega
        have hcy1 : cy ≤ 1 := by rw [← hcy]; split <;> omega
        have hlt8 : cy * 2 ^ k < 256 := by
          have : 2 ^ k ≤ 2 ^ 7 := Nat.pow_le_pow_right (by decide) hk7
          have : cy * 2 ^ k ≤ 1 * 2 ^ k := Nat.mul_le_mul_right _ hcy1
          omega
        obtain ⟨sh, hsh⟩ : ∃ sh, cy * 2 ^ k = sh := ⟨_, rfl⟩
        obtain ⟨nb, hnb⟩ : ∃ nb, by8 (bs ++ (pre ++ [y])) q = nb := ⟨_, rfl⟩
        rw [hsh] at hlt8
        have e5b : IntKind.u8.wrap ((cy : Int) * 2 ^ k) = (sh : Int) := by
          rw [IntKind.wrap_u8]
          have : ((cy : Int) * 2 ^ k) = ((cy * 2 ^ k : Nat) : Int) := by simp
          rw [this, hsh]; omega
        have e5 : IntKind.u8.wrap ((cy : Int) * 2 ^ min k 8) = (sh : Int) := by
          rw [Nat.min_eq_left (by omega)]; exact e5b
        have e6 : bits .or .u8 ((by8 (bs ++ pre) q : Nat) : Int) (sh : Int) = (nb : Int) := by
          rw [or_u8_nat _ _ (by8_lt _ _) hlt8, ← hnb, ← List.append_assoc, ← hqL, ← hL, ← hsh]
          rw [or_here (bs ++ pre) k (by rw [hL]; exact hkL) y cy hcy]
        have HSH := Lib.hid hsh
        have HNB := Lib.hid hnb
        clear hsh hnb hlt8
        have hi1 : (q : Int) < (q : Int) + 1 := by omega
        have HQ := Lib.hid hqL
        have HK := Lib.hid hkL
        have HC := Lib.hid hcy
        clear hqL hkL hcy
        have HB := Lib.hid hb
        have HR := Lib.hid hrow
        have HX := Lib.hid hbx
        have HF := Lib.hid hf
        have HA := Lib.hid hat
        have HO := Lib.hid hown
        have HX0 := Lib.hid hbox
        have HW : Hid (∀ k, v0.ownBlock = some k → k < w.heap.size) := Lib.hid (fun k e => by
          rcases hw.row.2 with ⟨hv, _⟩ | ⟨g', cap, cur, hv, hb, hh, _⟩
          · subst hv; cases e
          · subst hv; injection e with e
            have := (Array.getElem?_eq_some_iff.1 hh).1
            simp at e; omega)
        clear hbox hb hrow hbx hf hat hown hw bX bX2 b2 b3 s0 f1 f2 f3 hw2 hw1
        gi_wp2
        refine wpIn_round_tail 21 (by kernel_rfl) (by kernel_rfl) (by kernel_rfl) ?_
        simp only [List.take_succ_cons, List.take_zero, List.drop_succ_cons, List.drop_zero]
        repeat still_step
        refine wpStill_nil ?_
        obtain ⟨Y, hY⟩ : ∃ Y, (X.setCell ⟨r, q, none⟩ (.int .u8 (nb : Int))).drew = Y := ⟨_, rfl⟩
        go_wp2
        refine plainQ.mk ?_
        simp only [Exit.then]
        have hrg : g ≠ r := hgr0
        have hst : Y.ownsRow 0 5 1 (.slice (some ⟨r, 0, none⟩) (q + 1) c) (q + 1) (((pk (bs ++ pre) (q + 1)).map bv).set q (.int .u8 (nb : Int))) ∧ X.grownBy Y (some r) := by
          rw [← hY]
          have h := World.ownsRow.stored (w := X) HR.out q (.int .u8 (nb : Int))
          exact ⟨h.1, ⟨h.2.os, h.2.tape, h.2.output, h.2.size, h.2.block⟩⟩
        have hbY : Blk Y g T (.slice (some ⟨r, 0, none⟩) (q + 1) c :: .int .i64 L :: more).toArray := hst.2.block g HB.out.lt (by simp; omega) |>.trans HB.out
        have hxr : w.heap.size ≠ r := by
          intro e
          rcases HA.out with h | h
          · rcases HO.out with h2 | h2
            · have := HW.out; rw [h2] at h; have := this r h; omega
            · have := h2 _ h; omega
          · have := HX0.out.lt; omega
        have hxY : Blk Y w.heap.size 106 #[.pointer (some ⟨g, 0, none⟩)] := hst.2.block w.heap.size HX.out.lt (by simp; exact hxr) |>.trans HX.out
        have d1 := hbY.cell 1
        have dx := hxY.cell 0
        simp only [List.getElem?_toArray, List.getElem?_cons_zero, List.getElem?_cons_succ] at d1 dx
        have df := hbY.free 1
        have e7 : IntKind.i64.wrap ((L : Int) + 1) = ((L + 1 : Nat) : Int) := IntWalk.i64_in _ (by omega)
        have HY1 := Lib.hid hst
        have HY2 := Lib.hid hbY
        have HY3 := Lib.hid hxY
        clear hst hbY hxY
        gi_wp2
        have hZ : Frm W (Y.setCell ⟨g, 1, none⟩ (.int .i64 ((L : Int) + 1))) g v.ownBlock := (HF.out.grown HY1.out.2 (by
          rcases HA.out with h | h
          · exact .inl h.symm
          · exact .inr (.inr fun j e => by cases e; exact h))).grown (World.grownBy_setCell' Y g 1 _) (.inr (.inl rfl))
        have hlo : ∀ j, w.heap.size ≤ j → j < w2.heap.size → some j ≠ v.ownBlock := fun j h1 h2 e => by
          rcases HO.out with h | h
          · rw [h] at e; have := HW.out j e.symm; omega
          · have := h j e.symm; omega
        refine ⟨hZ.keepsFrom HROW.out (by omega), hZ.kp ⟨by omega, hlo _ (by omega) (by omega)⟩ ⟨by omega, hlo _ (by omega) (by omega)⟩, .slice (some ⟨r, 0, none⟩) (q + 1) c, ⟨⟨?_, ?_, fun e => hrg (by injection e with e; exact e.symm)⟩, Blk.other HY3.out 1 _ (by omega), ?_, HFRM.out.trans hZ ?_, Nat.le_trans hbig hZ.size⟩⟩
        · exact (HY2.out.put 1 _).of_ (by rw [← List.append_assoc, List.length_append, hL]; simp)
        · have hlen : (bs ++ (pre ++ [y])).length = L + 1 := by rw [← List.append_assoc, List.length_append, hL]; rfl
          have hq1 : (L + 1 + 7) / 8 = q + 1 := by have := HQ.out; omega
          rw [hlen, hq1]
          have h1 := ownsRow_other HY1.out.1 (a := ⟨g, 1, none⟩) (fun e => hrg (by injection e with e; exact e.symm)) (.int .i64 ((L : Int) + 1))
          rw [← HNB.out, ← List.append_assoc, pk_set (bs ++ pre) y q (by rw [hL]; exact HQ.out), List.append_assoc] at h1
          exact h1
        · rcases HA.out with h | h
          · rcases HO.out with h2 | h2
            · exact .inl (h2 ▸ h ▸ rfl)
            · exact .inr (fun j e => h2 j (h.trans e))
          · exact .inr (fun j e => by injection e with e; have e2 : r = j := e; omega)
        · rcases HO.out with h | h
          · exact .inl h
          · exact .inr (fun j e => by have := h j e; omega)
    · have h8 : L % 8 ≠ 0 := by
        have h : ((L : Int) % 8 == 0) = false := by assumption
        simp at h; omega
      have hq : (L + 7) / 8 = L / 8 + 1 := by omega
      rw [hL, hq] at hrow
      obtain ⟨r, c, rfl, _, _⟩ := hrow.form (by omega)
      have hgr : g ≠ r := fun e => hne0 (by rw [e]; rfl)
      have hb := hblk
      have hbx := hbox
      have HGR := Lib.hid hgr
      clear hgr
      obtain ⟨ro, hro⟩ : ∃ ro : Option Nat, ro = some r := ⟨_, rfl⟩
      have hat : ro = some r ∨ W.heap.size ≤ r := .inl hro
      replace hown : ro = v0.ownBlock ∨ ∀ k, ro = some k → w2.heap.size ≤ k := by rw [hro]; exact hown
      have HRO := Lib.hid hro
      clear hro
      have hf := Frm.refl W g ro
      clear hc0 hc1 hx0
      have c0 := hb.cell 0
      have c1 := hb.cell 1
      have cx := hbx.cell 0
      simp only [List.getElem?_toArray, List.getElem?_cons_zero, List.getElem?_cons_succ] at c0 c1 cx
      have fr := hb.free 1
      have cr : W.cell? ⟨r, L / 8, none⟩ = some (.int .u8 (by8 (bs ++ pre) (L / 8) : Nat)) := by
        rw [hrow.cellAt (L / 8) (by omega)]
        simp [pk, bv]
      have ff := hrow.frozenAt (L / 8)
      have hLl : L ≤ 1000064 := by
        have := inn_le x
        rw [List.length_append] at hL
        omega
      have e1 : IntKind.i64.wrap ((L : Int) / 8) = ((L / 8 : Nat) : Int) := by rw [IntWalk.i64_in _ (by omega)]; simp
      have e3 : IntKind.i64.wrap (7 - (L : Int) % 8) = ((7 - L % 8 : Nat) : Int) := by rw [IntWalk.i64_in _ (by omega)]; omega
      have e4 : IntKind.i64.wrap (7 - (L : Int).tmod 8) = ((7 - L % 8 : Nat) : Int) := by rw [Int.tmod_eq_emod_of_nonneg (by omega)]; exact e3
      obtain ⟨q, hqL⟩ : ∃ q, L / 8 = q := ⟨_, rfl⟩
      obtain ⟨k, hkL⟩ : ∃ k, 7 - L % 8 = k := ⟨_, rfl⟩
      obtain ⟨cy, hcy⟩ : ∃ cy : Nat, (if y then 1 else 0) = cy := ⟨_, rfl⟩
      have hby : bt y = .int .u8 cy := by unfold bt; rw [← hcy]; split <;> rfl
      rw [hqL] at cr ff hrow e1 c0 hb
      rw [hkL] at e3 e4
      have hk7 : k ≤ 7 := by omega
      have hcy1 : cy ≤ 1 := by rw [← hcy]; split <;> omega
      have hlt8 : cy * 2 ^ k < 256 := by
        have : 2 ^ k ≤ 2 ^ 7 := Nat.pow_le_pow_right (by decide) hk7
        have : cy * 2 ^ k ≤ 1 * 2 ^ k := Nat.mul_le_mul_right _ hcy1
        omega
      obtain ⟨sh, hsh⟩ : ∃ sh, cy * 2 ^ k = sh := ⟨_, rfl⟩
      obtain ⟨nb, hnb⟩ : ∃ nb, by8 (bs ++ (pre ++ [y])) q = nb := ⟨_, rfl⟩
      rw [hsh] at hlt8
      have e5b : IntKind.u8.wrap ((cy : Int) * 2 ^ k) = (sh : Int) := by
        rw [IntKind.wrap_u8]
        have : ((cy : Int) * 2 ^ k) = ((cy * 2 ^ k : Nat) : Int) := by simp
        rw [this, hsh]; omega
      have e5 : IntKind.u8.wrap ((cy : Int) * 2 ^ min k 8) = (sh : Int) := by
        rw [Nat.min_eq_left (by omega)]; exact e5b
      have e6 : bits .or .u8 ((by8 (bs ++ pre) q : Nat) : Int) (sh : Int) = (nb : Int) := by
        rw [or_u8_nat _ _ (by8_lt _ _) hlt8, ← hnb, ← List.append_assoc, ← hqL, ← hL, ← hsh]
        rw [or_here (bs ++ pre) k (by rw [hL]; exact hkL) y cy hcy]
      have HSH := Lib.hid hsh
      have HNB := Lib.hid hnb
      clear hsh hnb hlt8
      have hi1 : (q : Int) < (q : Int) + 1 := by omega
      have HQ := Lib.hid hqL
      have HK := Lib.hid hkL
      have HC := Lib.hid hcy
      clear hqL hkL hcy
      have HB := Lib.hid hb
      have HR := Lib.hid hrow
      have HX := Lib.hid hbx
      have HF := Lib.hid hf
      have HA := Lib.hid hat
      have HO := Lib.hid hown
      have HX0 := Lib.hid hbox
      have HW : Hid (∀ k, v0.ownBlock = some k → k < w.heap.size) := Lib.hid (fun k e => by
        rcases hw.row.2 with ⟨hv, _⟩ | ⟨g', cap, cur, hv, hb, hh, _⟩
        · subst hv; cases e
        · subst hv; injection e with e
          have := (Array.getElem?_eq_some_iff.1 hh).1
          simp at e; omega)
      clear hbox hb hrow hbx hf hat hown hw bX bX2 b2 b3 s0 f1 f2 f3 hw2 hw1
      gi_wp2
      refine wpIn_round_tail 21 (by kernel_rfl) (by kernel_rfl) (by kernel_rfl) ?_
      simp only [List.take_succ_cons, List.take_zero, List.drop_succ_cons, List.drop_zero]
      repeat still_step
      refine wpStill_nil ?_
      obtain ⟨Y, hY⟩ : ∃ Y, (W.setCell ⟨r, q, none⟩ (.int .u8 (nb : Int))).drew = Y := ⟨_, rfl⟩
      go_wp2
      refine plainQ.mk ?_
      simp only [Exit.then]
      have hrg : g ≠ r := HGR.out
      have hst : Y.ownsRow 0 5 1 (.slice (some ⟨r, 0, none⟩) (q + 1) c) (q + 1) (((pk (bs ++ pre) (q + 1)).map bv).set q (.int .u8 (nb : Int))) ∧ W.grownBy Y (some r) := by
        rw [← hY]
        have h := World.ownsRow.stored (w := W) HR.out q (.int .u8 (nb : Int))
        exact ⟨h.1, ⟨h.2.os, h.2.tape, h.2.output, h.2.size, h.2.block⟩⟩
      have hbY : Blk Y g T (.slice (some ⟨r, 0, none⟩) (q + 1) c :: .int .i64 L :: more).toArray := hst.2.block g HB.out.lt (by simp; omega) |>.trans HB.out
      have hxr : w.heap.size ≠ r := by
        intro e
        rcases HA.out with h | h
        · rcases HO.out with h2 | h2
          · have := HW.out; rw [h2] at h; have := this r h; omega
          · have := h2 _ h; omega
        · have := HX0.out.lt; omega
      have hxY : Blk Y w.heap.size 106 #[.pointer (some ⟨g, 0, none⟩)] := hst.2.block w.heap.size HX.out.lt (by simp; exact hxr) |>.trans HX.out
      have d1 := hbY.cell 1
      have dx := hxY.cell 0
      simp only [List.getElem?_toArray, List.getElem?_cons_zero, List.getElem?_cons_succ] at d1 dx
      have df := hbY.free 1
      have e7 : IntKind.i64.wrap ((L : Int) + 1) = ((L + 1 : Nat) : Int) := IntWalk.i64_in _ (by omega)
      have HY1 := Lib.hid hst
      have HY2 := Lib.hid hbY
      have HY3 := Lib.hid hxY
      clear hst hbY hxY
      gi_wp2
      have hZ : Frm W (Y.setCell ⟨g, 1, none⟩ (.int .i64 ((L : Int) + 1))) g ro := (HF.out.grown HY1.out.2 (by
        rcases HA.out with h | h
        · exact .inl h.symm
        · exact .inr (.inr fun j e => by cases e; exact h))).grown (World.grownBy_setCell' Y g 1 _) (.inr (.inl rfl))
      have hlo : ∀ j, w.heap.size ≤ j → j < w2.heap.size → some j ≠ ro := fun j h1 h2 e => by
        rcases HO.out with h | h
        · rw [h] at e; have := HW.out j e.symm; omega
        · have := h j e.symm; omega
      refine ⟨Frm.keepsFrom (v := .slice (some ⟨r, 0, none⟩) (L / 8 + 1) c) (HRO.out ▸ hZ) HROW.out (by omega), hZ.kp ⟨by omega, hlo _ (by omega) (by omega)⟩ ⟨by omega, hlo _ (by omega) (by omega)⟩, .slice (some ⟨r, 0, none⟩) (q + 1) c, ⟨⟨?_, ?_, fun e => hrg (by injection e with e; exact e.symm)⟩, Blk.other HY3.out 1 _ (by omega), ?_, HFRM.out.trans hZ ?_, Nat.le_trans hbig hZ.size⟩⟩
      · exact (HY2.out.put 1 _).of_ (by rw [← List.append_assoc, List.length_append, hL]; simp)
      · have hlen : (bs ++ (pre ++ [y])).length = L + 1 := by rw [← List.append_assoc, List.length_append, hL]; rfl
        have hq1 : (L + 1 + 7) / 8 = q + 1 := by have := HQ.out; omega
        rw [hlen, hq1]
        have h1 := ownsRow_other HY1.out.1 (a := ⟨g, 1, none⟩) (fun e => hrg (by injection e with e; exact e.symm)) (.int .i64 ((L : Int) + 1))
        rw [← HNB.out, ← List.append_assoc, pk_set (bs ++ pre) y q (by rw [hL]; exact HQ.out), List.append_assoc] at h1
        exact h1
      · rcases HA.out with h | h
        · rcases HO.out with h2 | h2
          · exact .inl (h2 ▸ h ▸ rfl)
          · exact .inr (fun j e => h2 j (h.trans e))
        · exact .inr (fun j e => by injection e with e; have e2 : r = j := e; omega)
      · rcases HO.out with h | h
        · exact .inl h
        · exact .inr (fun j e => by have := h j e; omega)
  case done =>
    rintro D ys W hD rfl ⟨v, hS⟩ hK
    gi_wp2
    refine ⟨by simp, .inl ⟨_, _, rfl, run_takeDeferred hK, ?_⟩⟩
    have hE := hS.kept (grownBy_putObj' W D (.deferred none)) (by omega) (fun r e => by cases e; exact ⟨hD, _, hK, rfl⟩)
    exact ⟨_, results_none rfl _ _ _, rfl, v, hE.wr, hE.row.imp id (fun h k e => by have := h k e; omega), hE.frm⟩
  case stop =>
    rintro D c pre W _ _ h _
    exact h.elim
end Go.PutG
/-
  bits' Put, for the evaluator.
-/
namespace Go.Ev
open Go.Proofs Go.Proofs.YtbilegkffooioaaGreatDoor Go.PutG

/-- The lowest k bits of N come behind u bits of which the last byte holds p. -/
def goB (N : Nat) : Nat → Nat → Nat → Tr Nat → Tr Nat
  | 0, p, u, c => match Nat.beq (u % 8) 0 with
    | true => c
    | false => c.set (u / 8) p
  | k + 1, p, u, c => match Nat.beq (u % 8) 7 with
    | true => goB N k 0 (u + 1) (c.set (u / 8) (p + N / 2 ^ k % 2 * 2 ^ (7 - u % 8)))
    | false => goB N k (p + N / 2 ^ k % 2 * 2 ^ (7 - u % 8)) (u + 1) c

theorem hb_succ (N k : Nat) : hb N (k + 1) = N.testBit k :: hb N k := by
  unfold hb ht
  rw [List.range_succ_eq_map, List.map_cons, List.map_map]
  congr 1
  apply List.map_congr_left
  intro j _
  simp only [Function.comp]
  congr 1
  omega

theorem bit_num (N k : Nat) : (if N.testBit k then 1 else 0) = N / 2 ^ k % 2 := by
  rw [Nat.testBit_eq_decide_div_mod_eq]
  have := Nat.mod_two_eq_zero_or_one (N / 2 ^ k)
  rcases this with h | h <;> simp [h]

theorem goB_get (N : Nat) : ∀ (k p u : Nat) (c : Tr Nat) (bs : List Bool), bs.length = u → p = by8 bs (u / 8) → (∀ i, i < u / 8 → c.get i = some (by8 bs i)) →
    ∀ i, i < (u + k + 7) / 8 → (goB N k p u c).get i = some (by8 (bs ++ hb N k) i)
  | 0, p, u, c, bs, hl, hp, hc, i, hi => by
    have h0 : hb N 0 = [] := rfl
    rw [h0, List.append_nil]
    simp only [goB]
    cases h8 : Nat.beq (u % 8) 0 with
    | true =>
      have := Nat.eq_of_beq_eq_true h8
      exact hc i (by omega)
    | false =>
      have := Nat.ne_of_beq_eq_false h8
      simp only [Tr.get_set]
      by_cases hiu : i = u / 8
      · rw [if_pos hiu, hp, hiu]
      · rw [if_neg hiu]; exact hc i (by omega)
  | k + 1, p, u, c, bs, hl, hp, hc, i, hi => by
    have hbit := bit_num N k
    have hhere := by8_here bs (N.testBit k)
    rw [hl, hbit, ← hp] at hhere
    rw [hb_succ, show bs ++ N.testBit k :: hb N k = (bs ++ [N.testBit k]) ++ hb N k by simp]
    simp only [goB]
    have hlen : (bs ++ [N.testBit k]).length = u + 1 := by simp [hl]
    cases h8 : Nat.beq (u % 8) 7 with
    | true =>
      have h7 := Nat.eq_of_beq_eq_true h8
      have hq : (u + 1) / 8 = u / 8 + 1 := by omega
      refine goB_get N k 0 (u + 1) _ (bs ++ [N.testBit k]) hlen ?_ (fun j hj => ?_) i (by omega)
      · rw [hq, by8_out _ _ (by rw [hlen]; omega)]
      · rw [Tr.get_set]
        by_cases hju : j = u / 8
        · rw [if_pos hju, hju, hhere]
        · rw [if_neg hju, by8_other _ _ _ (by rw [hl]; exact hju)]
          exact hc j (by omega)
    | false =>
      have h7 := Nat.ne_of_beq_eq_false h8
      have hq : (u + 1) / 8 = u / 8 := by omega
      refine goB_get N k _ (u + 1) c (bs ++ [N.testBit k]) hlen ?_ (fun j hj => ?_) i (by omega)
      · rw [hq, hhere]
      · rw [by8_other _ _ _ (by rw [hl]; omega)]
        exact hc j (by omega)

set_option maxHeartbeats 4000000 in
/-- Bytes are bits, if behind the last bit there are noughts. -/
theorem bits_of (B : Nat → Nat) (u : Nat) (h1 : ∀ i, i < (u + 7) / 8 → B i < 256) (h2 : u % 8 ≠ 0 → B (u / 8) % 2 ^ (8 - u % 8) = 0) :
    ∃ bs : List Bool, bs.length = u ∧ ∀ i, i < (u + 7) / 8 → by8 bs i = B i := by
  refine ⟨(List.range u).map fun k => (B (k / 8)).testBit (7 - k % 8), by simp, fun i hi => ?_⟩
  have e : ∀ j, j < 8 → bi ((List.range u).map fun k => (B (k / 8)).testBit (7 - k % 8)) (8 * i + j) = if 8 * i + j < u then B i / 2 ^ (7 - j) % 2 else 0 := fun j hj => by
    unfold bi
    by_cases hlt : 8 * i + j < u
    · rw [if_pos hlt, ← bit_num]
      have hd : (8 * i + j) / 8 = i := by omega
      have hm : (8 * i + j) % 8 = j := by omega
      simp [List.getD_eq_getElem?_getD, hlt, hd, hm]
    · rw [if_neg hlt]
      simp [List.getD_eq_getElem?_getD, List.getElem?_eq_none (show ((List.range u).map fun k => (B (k / 8)).testBit (7 - k % 8)).length ≤ 8 * i + j by simp; omega)]
  have e0 := e 0 (by omega)
  have e1 := e 1 (by omega)
  have e2 := e 2 (by omega)
  have e3 := e 3 (by omega)
  have e4 := e 4 (by omega)
  have e5 := e 5 (by omega)
  have e6 := e 6 (by omega)
  have e7 := e 7 (by omega)
  simp only [Nat.add_zero, Nat.sub_zero, Nat.reduceSub, Nat.reducePow, Nat.div_one] at e0 e1 e2 e3 e4 e5 e6 e7
  have hb := h1 i hi
  unfold by8
  rw [e0, e1, e2, e3, e4, e5, e6, e7]
  by_cases hfull : 8 * i + 8 ≤ u
  · rw [if_pos (by omega), if_pos (by omega), if_pos (by omega), if_pos (by omega), if_pos (by omega), if_pos (by omega), if_pos (by omega), if_pos (by omega)]
    omega
  · have hu : u / 8 = i := by omega
    have hz := h2 (by omega)
    rw [hu] at hz
    have hr : u % 8 = 1 ∨ u % 8 = 2 ∨ u % 8 = 3 ∨ u % 8 = 4 ∨ u % 8 = 5 ∨ u % 8 = 6 ∨ u % 8 = 7 := by omega
    rcases hr with hr | hr | hr | hr | hr | hr | hr <;> rw [hr] at hz <;> simp only [Nat.reduceSub, Nat.reducePow] at hz <;>
      (repeat (first | rw [if_pos (by omega)] | rw [if_neg (by omega)])) <;> omega

/-! ### the call -/
def putM (m : Mem) (b : Nat) (c : Tr Value) (n : Nat) (t : TypeId) (sure : Bool) (cb : Tr Nat) (l u : Nat) (r : Option Nat) : Mem :=
  { blks := ((match r with | some r => m.blks.set r .dead | none => m.blks).set m.next (.bytes cb l 5)).set b (.cells ((c.set 0 (.slice (some ⟨m.next, 0, some 0⟩) l l)).set 1 (.int .i64 (.ofNat u))) n t sure), next := m.next + 1 }

theorem put_callsG (g : Nat) (T : TypeId) (more : List Value) (N : Nat) (x : Int) (hN : N < 18446744073709551616) (bs : List Bool) (hl : bs.length ≤ 1000000) (v0 : Value) (w : World) (hw : Wr w g T more bs v0) :
    Calls Tryz.prog 105 #[.pointer (some ⟨g, 0, none⟩), .int .u64 N, .int .i64 x] w fun e w' => e = .returned (.tuple #[]) ∧
      ∃ v, Wr w' g T more (bs ++ hb N (inn x)) v ∧ (v.ownBlock = v0.ownBlock ∨ ∀ k, v.ownBlock = some k → w.heap.size ≤ k) ∧ Frm w w' g v0.ownBlock :=
  callsIn_wide.1 (put_in g T more N x hN bs hl v0 w hw)

theorem put_core {base : Nat} {ρ : Ren} {m : Mem} {w : World} (h : Rel Tryz.prog base ρ m w) {b : Nat} {c : Tr Value} {n : Nat} {t : TypeId} {sure : Bool} {s : Slot} (hbk : m.blks.get b = some (.cells c n t sure)) (hs : ρ b = some s) (hb : base ≤ b)
    {bs : List Bool} {u N k : Nat} (hu : bs.length = u) (hul : u ≤ 1000000) (hN : N < 18446744073709551616) (hk0 : 0 < k) (hk : k ≤ 64) {v0 : Value} {more : List Value} (hcs : w.heap[s.blk]? = some (.cells (v0 :: .int .i64 bs.length :: more).toArray t (0, 0)))
    (hrow : w.ownsRow 0 5 1 v0 ((bs.length + 7) / 8) ((pk bs ((bs.length + 7) / 8)).map bv)) (rr : Option Nat)
    (hrr : match rr with | none => v0.ownBlock = none | some r => base ≤ r ∧ live m r ∧ r ≠ b ∧ ∃ tr, ρ r = some tr ∧ v0.ownBlock = some tr.blk)
    {cb : Tr Nat} {l : Nat} (hl : l = (u + k + 7) / 8) (hcb : ∀ i, i < l → cb.get i = some (by8 (bs ++ YtbilegkffooioaaGreatDoor.hb N k) i)) (hsize : Tryz.prog.cellsOf 5 = 1) :
    Calls Tryz.prog 105 #[.pointer (some ⟨s.blk, 0, none⟩), .int .u64 (N : Int), .int .i64 (k : Int)] w fun e w' => ∃ v' ρ', e = .returned v' ∧ Went Tryz.prog base ρ m w ρ' (putM m b c n t sure cb l (u + k) rr) w' ∧ VR ρ' (.tuple #[]) v' := by
  have hlive : live m b := ⟨_, hbk, by simp⟩
  have hne : v0.ownBlock ≠ some s.blk := by
    cases rr with
    | none => simp only at hrr; rw [hrr]; simp
    | some r =>
      obtain ⟨_, h2, h3, tr, h4, h5⟩ := hrr
      rw [h5]
      intro e
      injection e with e
      exact h3 (h.inj r b tr s h2 hlive h4 hs e)
  have hwr : Wr w s.blk t more bs v0 := ⟨hcs, hrow, hne⟩
  refine (put_callsG s.blk t more N (k : Int) hN bs (by omega) v0 w hwr).mono ?_
  rintro e w' ⟨rfl, v, hw', hown, hf⟩
  have hinn : inn (k : Int) = k := by unfold inn; omega
  rw [hinn] at hw'
  have hlen : (bs ++ YtbilegkffooioaaGreatDoor.hb N k).length = u + k := by rw [List.length_append, hu]; unfold YtbilegkffooioaaGreatDoor.hb; rw [ht_len]
  obtain ⟨hblk', hrow', hne'⟩ := hw'
  rw [hlen] at hblk' hrow'
  rw [← hl] at hrow'
  rcases hrow'.2 with ⟨_, h0⟩ | ⟨g', cap, cur, hv, _, hcur, hlc, hcm, hsz, htake⟩
  · omega
  · subst hv
    simp only [Nat.mul_one] at hsz htake
    obtain ⟨s1, hs1, cs, q1, q2, q3, q4, q5⟩ := h.im b _ hbk (by simp)
    have : s1 = s := Option.some.inj (hs1.symm.trans hs)
    subst this
    rw [hcs] at q1
    simp only [Option.some.injEq, Obj.cells.injEq, and_true] at q1
    subst q1
    have hgetm : ∀ x, (putM m b c n t sure cb l (u + k) rr).blks.get x = if x = b then some (.cells ((c.set 0 (.slice (some ⟨m.next, 0, some 0⟩) l l)).set 1 (.int .i64 (.ofNat (u + k)))) n t sure) else if x = m.next then some (.bytes cb l 5) else if rr = some x then some .dead else m.blks.get x := fun x => by
      simp only [putM, Tr.get_set]
      cases rr with
      | none => simp
      | some r => simp only [Tr.get_set, Option.some.injEq]; by_cases hx : x = r <;> simp [hx, eq_comm]
    have hbn := live_lt h hlive
    have hnew : (ρ.with m.next ⟨g', 0, cap - l⟩) m.next = some ⟨g', 0, cap - l⟩ := by rw [Ren.with, if_pos rfl]
    have hext := Ren.ext_with (s := ⟨g', 0, cap - l⟩) (h.dom _ (Nat.le_refl _))
    refine ⟨_, ρ.with m.next ⟨g', 0, cap - l⟩, rfl, went_gen h (fun x => x = b ∨ rr = some x) ⟨g', 0, cap - l⟩ (fun x hx => ?_) hf.size (fun c hc hno => ?_) hf.os hf.output hf.tape rfl (fun x k' hk' hd => ?_) ?_, .tuple .nil⟩
    · rcases hx with rfl | rfl
      · exact ⟨hlive, hb⟩
      · exact ⟨hrr.2.1, hrr.1⟩
    · refine hf.block c hc (fun e => hno b s1 (.inl rfl) hs e.symm) fun e => ?_
      cases rr with
      | none => simp only at hrr; rw [hrr] at e; cases e
      | some r =>
        obtain ⟨_, _, _, tr, h4, h5⟩ := hrr
        rw [h5] at e
        injection e with e
        exact hno r tr (.inr rfl) h4 e.symm
    · rw [hgetm] at hk'
      by_cases hxb : x = b
      · subst hxb
        rw [if_pos rfl] at hk'
        cases hk'
        refine .inr (.inl ⟨hbn, .inl rfl, s1, hs, _, hblk', by simpa using q2, fun i hi => ?_, q4, fun hsu => by simpa using q5 hsu⟩)
        rw [q4, Nat.zero_add]
        simp only [Tr.get_set]
        match i, hi with
        | 0, _ =>
          refine ⟨.slice (some ⟨m.next, 0, some 0⟩) l l, .slice (some ⟨g', 0, none⟩) l cap, by rw [if_neg (by omega), if_pos rfl], by simp, ?_⟩
          have := vr_sliceO (o := 0) (n := l) (c := l) (k := 0) hnew
          rw [show l + (cap - l) = cap by omega] at this
          simpa using this
        | 1, _ => exact ⟨.int .i64 (.ofNat (u + k)), .int .i64 (.ofNat (u + k)), by rw [if_pos rfl], by simp, .leaf rfl⟩
        | i + 2, hi =>
          obtain ⟨x1, x2, e1, e2, e3⟩ := q3 (i + 2) hi
          rw [q4, Nat.zero_add] at e2
          refine ⟨x1, x2, by rw [if_neg (by omega), if_neg (by omega)]; exact e1, by simpa using e2, e3.mono hext⟩
      · rw [if_neg hxb] at hk'
        by_cases hxn : x = m.next
        · rw [if_pos hxn] at hk'
          cases hk'
          refine .inl ⟨hxn, cur, hcur, fun i hi => ?_, rfl, ?_, ?_⟩
          · refine ⟨_, hcb i hi, by8_lt _ _, ?_⟩
            have hti : (cur.toList.take l)[i]? = ((pk (bs ++ YtbilegkffooioaaGreatDoor.hb N k) l).map bv)[i]? := by rw [htake]
            rw [List.getElem?_take, if_pos hi] at hti
            rw [← Array.getElem?_toList, hti]
            simp [pk, hi, bv]
          · simp only [hsize, Nat.mul_one]; omega
          · simp only [hsize, Nat.mul_one]; omega
        · rw [if_neg hxn] at hk'
          by_cases hxr : rr = some x
          · rw [if_pos hxr] at hk'
            cases hk'
            exact absurd rfl hd
          · rw [if_neg hxr] at hk'
            exact .inr (.inr ⟨h.bnd x k' hk' hd, fun hx => by rcases hx with hx | hx; exact hxb hx; exact hxr hx, hk'⟩)
    · rcases hown with ho | ho
      · cases rr with
        | none => simp only at hrr; rw [hrr] at ho; cases ho
        | some r =>
          obtain ⟨_, h2, h3, tr, h4, h5⟩ := hrr
          rw [h5] at ho
          refine .inr ⟨r, tr, .inr rfl, h4, ?_, ?_⟩
          · simp only [Value.ownBlock, Option.some.injEq] at ho
            exact ho.symm
          · rintro ⟨k', hk', hd⟩
            have hrn : r ≠ m.next := by have := live_lt h h2; omega
            rw [hgetm, if_neg h3, if_neg hrn, if_pos rfl] at hk'
            cases hk'
            exact hd rfl
      · exact .inl (ho g' rfl)

end Go.Ev
/-
  bits' Put, for the evaluator: the function by hand.
-/
namespace Go.Ev
open Go.Proofs Go.Proofs.YtbilegkffooioaaGreatDoor Go.PutG

def spPut (base : Nat) (args : List Value) (m : Mem) : Ans :=
  match args with
  | [.pointer (some ⟨b, 0, none⟩), .int .u64 (.ofNat N), .int .i64 (.ofNat k)] =>
    if N < 18446744073709551616 ∧ 0 < k ∧ k ≤ 64 ∧ base ≤ b then
      match m.blks.get b with
      | some (.cells c n t sure) =>
        if n < 2 then none else
        match c.get 0, c.get 1 with
        | some (.slice none 0 0), some (.int .i64 (.ofNat 0)) => some (.tuple #[], putM m b c n t sure (goB N k 0 0 .e) ((k + 7) / 8) k none)
        | some (.slice (some ⟨r, 0, some 0⟩) l l'), some (.int .i64 (.ofNat u)) =>
          if l' = l ∧ l = (u + 7) / 8 ∧ 0 < u ∧ u ≤ 1000000 ∧ base ≤ r ∧ r ≠ b then
            match m.blks.get r with
            | some (.bytes cr l2 t2) =>
              if l2 = l ∧ t2 = 5 then
                if u % 8 = 0 then some (.tuple #[], putM m b c n t sure (goB N k 0 u cr) ((u + k + 7) / 8) (u + k) (some r))
                else match cr.get (u / 8) with
                  | some q => if q % 2 ^ (8 - u % 8) = 0 then some (.tuple #[], putM m b c n t sure (goB N k q u cr) ((u + k + 7) / 8) (u + k) (some r)) else none
                  | none => none
              else none
            | _ => none
          else none
        | _, _ => none
      | _ => none
    else none
  | _ => none

theorem spPut_calls {base : Nat} (hsize : Tryz.prog.cellsOf 5 = 1) {args : List Value} {m m' : Mem} {v : Value} (e : spPut base args m = some (v, m')) : CallsTo Tryz.prog base 105 args m v m' := by
  intro ρ w args' h ha
  unfold spPut at e
  split at e
  · rename_i b N k
    split at e
    · rename_i hc
      obtain ⟨hN, hk0, hk, hb⟩ := hc
      split at e
      · rename_i c n t sure hbk
        split at e
        · cases e
        · rename_i hn
          obtain ⟨s, hs, cs, q1, q2, q3, q4, q5⟩ := h.im b _ hbk (by simp)
          obtain ⟨x0, y0, a0, b0, r0⟩ := q3 0 (by omega)
          obtain ⟨x1, y1, a1, b1, r1⟩ := q3 1 (by omega)
          rw [q4] at b0 b1
          simp only [Nat.zero_add] at b0 b1
          -- the arguments as they are
          obtain ⟨args'⟩ := args'
          simp only at ha
          have harg : args' = [.pointer (some ⟨s.blk, 0, none⟩), .int .u64 (N : Int), .int .i64 (k : Int)] := by
            cases ha with
            | cons h1 ha => cases ha with
              | cons h2 ha => cases ha with
                | cons h3 ha => cases ha with
                  | nil =>
                    cases h2
                    cases h3
                    cases h1 with
                    | leaf h => simp [leafB] at h
                    | ptr hp hsp =>
                      rename_i s2
                      have : s2 = s := Option.some.inj (hp.symm.trans hs)
                      subst this
                      simp only [q4, Nat.zero_add]
                      rfl
          subst harg
          -- the writer's cells
          have hcs : ∃ more, cs = (y0 :: y1 :: more).toArray := by
            obtain ⟨l⟩ := cs
            match l, b0, b1 with
            | a :: b :: l, b0, b1 => simp at b0 b1; exact ⟨l, by rw [b0, b1]⟩
            | [a], _, b1 => simp at b1
            | [], b0, _ => simp at b0
          obtain ⟨more, hcs⟩ := hcs
          subst hcs
          split at e
          · rename_i hg0 hg1
            cases e
            rw [hg0] at a0
            rw [hg1] at a1
            cases a0
            cases a1
            cases r0
            cases r1
            have := put_core (bs := []) (u := 0) (k := k) (rr := none) (cb := goB N k 0 0 .e) (l := (k + 7) / 8) h hbk hs hb rfl (by omega) hN hk0 hk q1 ⟨rfl, .inl ⟨rfl, rfl⟩⟩ rfl (by rw [Nat.zero_add]) (fun i hi => by
              have := goB_get N k 0 0 .e [] rfl (by rfl) (fun i hi => absurd hi (by omega)) i (by omega)
              exact this) hsize
            rw [Nat.zero_add] at this
            exact this
          · rename_i r l l' u hg0 hg1
            rw [hg0] at a0
            rw [hg1] at a1
            cases a0
            cases a1
            cases r1
            split at e
            · rename_i hcond
              obtain ⟨rfl, hl, hu0, hul, hr, hrb⟩ := hcond
              split at e
              · rename_i cr l2 t2 hrk
                split at e
                · rename_i hl2
                  obtain ⟨rfl, rfl⟩ := hl2
                  obtain ⟨tr, htr, cur, p1, p2, p3, p4, p5⟩ := h.im r _ hrk (by simp)
                  rw [hsize, Nat.mul_one] at p4 p5
                  have hy0 : y0 = .slice (some ⟨tr.blk, 0, none⟩) l2 (l2 + tr.ext) := by
                    cases r0 with
                    | leaf h => simp [leafB] at h
                    | slice hp hsp => cases hsp
                    | sliceO hp hsp =>
                      rename_i s2 k2
                      have : s2 = tr := Option.some.inj (hp.symm.trans htr)
                      subst this
                      cases hsp
                      simp [p3]
                  subst hy0
                  -- what the bytes are
                  have core : ∀ (p : Nat) (bs : List Bool), bs.length = u → (∀ i, i < (u + 7) / 8 → cr.get i = some (by8 bs i)) → p = by8 bs (u / 8) →
                      (v, m') = (.tuple #[], putM m b c n t sure (goB N k p u cr) ((u + k + 7) / 8) (u + k) (some r)) →
                      Calls Tryz.prog 105 #[.pointer (some ⟨s.blk, 0, none⟩), .int .u64 (N : Int), .int .i64 (k : Int)] w fun e w' => ∃ v' ρ', e = .returned v' ∧ Went Tryz.prog base ρ m w ρ' m' w' ∧ VR ρ' v v' := fun p bs hbs hby hp he => by
                    cases he
                    have q1' : w.heap[s.blk]? = some (.cells (.slice (some ⟨tr.blk, 0, none⟩) l2 (l2 + tr.ext) :: .int .i64 bs.length :: more).toArray t (0, 0)) := by rw [hbs]; exact q1
                    refine put_core (bs := bs) (u := u) (k := k) (rr := some r) (cb := goB N k p u cr) (l := (u + k + 7) / 8) h hbk hs hb hbs hul hN hk0 hk q1' ⟨?_, .inr ⟨tr.blk, l2 + tr.ext, cur, by rw [hbs, ← hl], Nat.zero_le _, p1, ?_, ?_, ?_, ?_⟩⟩ ⟨hr, ⟨_, hrk, by simp⟩, hrb, tr, htr, rfl⟩ rfl (fun i hi => goB_get N k p u cr bs hbs hp (fun i hi => hby i (by omega)) i hi) hsize
                    · simp [pk_len]
                    · omega
                    · omega
                    · omega
                    · rw [hbs, ← hl, Nat.mul_one]
                      apply List.ext_getElem?
                      intro i
                      rw [List.getElem?_take]
                      by_cases hi : i < l2
                      · rw [if_pos hi]
                        obtain ⟨kk, k1, k2, k3⟩ := p2 i hi
                        rw [hby i (by omega)] at k1
                        cases k1
                        rw [Array.getElem?_toList, k3]
                        simp [pk, hi, bv]
                      · rw [if_neg hi]
                        symm
                        rw [List.getElem?_eq_none]
                        simp [pk_len]
                        omega
                  have hB : ∀ i, i < (u + 7) / 8 → ∃ kk, cr.get i = some kk ∧ kk < 256 := fun i hi => by
                    obtain ⟨kk, k1, k2, _⟩ := p2 i (by omega)
                    exact ⟨kk, k1, k2⟩
                  have mk : (u % 8 ≠ 0 → ((cr.get (u / 8)).getD 0) % 2 ^ (8 - u % 8) = 0) → ∃ bs : List Bool, bs.length = u ∧ ∀ i, i < (u + 7) / 8 → cr.get i = some (by8 bs i) := fun hz => by
                    obtain ⟨bs, k1, k2⟩ := bits_of (fun i => (cr.get i).getD 0) u (fun i hi => by
                      obtain ⟨kk, k1, k2⟩ := hB i hi
                      simp only [k1, Option.getD_some]; exact k2) hz
                    refine ⟨bs, k1, fun i hi => ?_⟩
                    obtain ⟨kk, k3, _⟩ := hB i hi
                    have := k2 i hi
                    rw [k3] at this ⊢
                    simp only [Option.getD_some] at this
                    rw [this]
                  split at e
                  · rename_i h8
                    obtain ⟨bs, k1, k2⟩ := mk fun h => absurd h8 h
                    refine core 0 bs k1 k2 ?_ (by simpa using e.symm)
                    rw [by8_out]
                    omega
                  · rename_i h8
                    split at e
                    · rename_i q hq
                      split at e
                      · rename_i hqz
                        obtain ⟨bs, k1, k2⟩ := mk fun _ => by rw [hq]; exact hqz
                        refine core q bs k1 k2 ?_ (by simpa using e.symm)
                        have := k2 (u / 8) (by omega)
                        rw [hq] at this
                        exact Option.some.inj this
                      · cases e
                    · cases e
                · cases e
              · cases e
            · cases e
          · cases e
      · cases e
    · cases e
  · cases e

end Go.Ev
/-
  The functions by hand together, for this program.
-/
namespace Go.Ev
open Go.Proofs Go.Proofs.YtbilegkffooioaaGreatDoor Go.PutG
set_option maxRecDepth 100000

/-- bits.Add64. -/
def spAdd (args : List Value) (m : Mem) : Ans :=
  match args with
  | [.int .u64 (.ofNat x), .int .u64 (.ofNat y), .int .u64 (.ofNat c)] =>
    if c ≤ 1 then some (.tuple #[.int .u64 (.ofNat ((x + y + c) % 18446744073709551616)), .int .u64 (.ofNat ((x + y + c) / 18446744073709551616))], m) else none
  | _ => none

theorem add64_at (x y c : Nat) (hc : c ≤ 1) (w : World) : (callFunc 227 #[.int .u64 x, .int .u64 y, .int .u64 c]).run Tryz.prog w =
      .ok (.value (.tuple #[.int .u64 (((x + y + c) % 18446744073709551616 : Nat) : Int), .int .u64 (((x + y + c) / 18446744073709551616 : Nat) : Int)])) w := by
  rw [run_callFunc_extern Tryz.func227 (by kernel_rfl) (by kernel_rfl) (by kernel_rfl) (e := add64Entry) (by kernel_rfl), run_add64 x y c (by omega) (by omega) (by omega) (by omega)]
  simp only [Result.andThen]
  congr 5 <;> omega

theorem spAdd_sound {base : Nat} {args : List Value} {m m' : Mem} {v : Value} (e : spAdd args m = some (v, m')) : ∀ ρ w (args' : Array Value), Rel Tryz.prog base ρ m w → VRL ρ args args'.toList → ∀ (o : Oper) (a : Act) (K : Act → World → Prop) (Q : Exit → Act → World → Prop),
    (∀ v' ρ' w', Went Tryz.prog base ρ m w ρ' m' w' → VR ρ' v v' → K (a.put o.dst v') w') → o.upon Tryz.prog a K Q ((callFunc 227 args').run Tryz.prog w) := by
  intro ρ w args' hr ha o a K Q hK
  unfold spAdd at e
  split at e
  · rename_i x y c
    split at e
    · rename_i hc
      cases e
      obtain ⟨args'⟩ := args'
      simp only at ha
      cases ha with
      | cons h1 ha => cases ha with
        | cons h2 ha => cases ha with
          | cons h3 ha => cases ha with
            | nil =>
              cases h1
              cases h2
              cases h3
              have := add64_at x y c hc w
              have h4 : (callFunc 227 #[.int .u64 (Int.ofNat x), .int .u64 (Int.ofNat y), .int .u64 (Int.ofNat c)]).run Tryz.prog w = .ok (.value (.tuple #[.int .u64 (.ofNat ((x + y + c) % 18446744073709551616)), .int .u64 (.ofNat ((x + y + c) / 18446744073709551616))])) w := this
              rw [h4, Oper.upon_value]
              exact hK _ ρ w (.refl hr) (.tuple (.cons (.leaf rfl) (.cons (.leaf rfl) .nil)))
    · cases e
  · cases e

theorem enters105 : Enters Tryz.prog 105 := ⟨_, Tryz.func105, by kernel_rfl, by kernel_rfl⟩
theorem cells5 : Tryz.prog.cellsOf 5 = 1 := by kernel_rfl

/-- All of them. -/
noncomputable def sp (tb : List Pc) : CallF := fun f args m => @Bool.rec (fun _ => Ans) (@Bool.rec (fun _ => Ans) (useTable tb f args m) (spAdd args m) (Nat.beq f 227)) (spPut 3 args m) (Nat.beq f 105)

theorem sp_sound {tb : List Pc} (h : ∀ p ∈ tb, p.Right Tryz.prog 3) : CallSound Tryz.prog 3 (sp tb) := by
  intro g args m v m' e
  unfold sp at e
  cases h1 : Nat.beq g 105 with
  | true =>
    rw [h1] at e
    have := Nat.eq_of_beq_eq_true h1
    subst this
    exact callsTo_upon enters105 (spPut_calls cells5 e)
  | false =>
    rw [h1] at e
    replace e : @Bool.rec (fun _ => Ans) (useTable tb g args m) (spAdd args m) (Nat.beq g 227) = some (v, m') := e
    cases h2 : Nat.beq g 227 with
    | true =>
      rw [h2] at e
      have := Nat.eq_of_beq_eq_true h2
      subst this
      exact spAdd_sound e
    | false =>
      rw [h2] at e
      exact useTable_sound h g args m v m' e

/-! ### facts of the program -/
theorem mixed : Tryz.prog.follows .mixedOrders = true := by kernel_rfl
def noNumB (P : Program) : Bool := P.funcs.toList.all fun f => !(f.name == "runtime.NumGoroutine")
theorem noNum : ∀ (f : FuncId) (fn : Func), Tryz.prog.funcs[f]? = some fn → (fn.name == "runtime.NumGoroutine") = false := by
  have h : noNumB Tryz.prog = true := by kernel_rfl
  intro f fn hf
  have hm : fn ∈ Tryz.prog.funcs.toList := List.mem_of_getElem? (by rw [Array.getElem?_toList]; exact hf)
  have := List.all_eq_true.1 h fn hm
  simpa using this

/-- A piece, out of the kernel's reckoning. -/
theorem piece {tb : List Pc} (h : ∀ p ∈ tb, p.Right Tryz.prog 3) (p : Pc) {fn : Func} (hf : Tryz.prog.funcs[p.f]? = some fn) (hlow : ∀ b, b < 3 → live p.m b)
    (hb : fn.body.isNone = false) (hn : (fn.name == "runtime.NumGoroutine") = false) {d : Nat} (hok : p.okB (X.fn Tryz.prog 3 (X.callN Tryz.prog 3 (sp tb) d) fn p.args p.m) = true) : p.Right Tryz.prog 3 := by
  refine Pc.right ⟨fn, hf, hb, hn⟩ hlow hok fun v m' e => ?_
  rw [X.fn_eq, X.callN_eq] at e
  exact ev_calls mixed noNum (sp_sound h) hf e

end Go.Ev
/-
  A loop over a map of two entries, which ends as it began: maps.DeleteFunc that deletes nothing.
-/
namespace Go.Ev

/-! ### what was forgotten may be named anew -/
mutual
theorem VR.back {ρ ρ2 : Ren} (he : Ext ρ ρ2) : ∀ {v v0 v' : Value}, VR ρ v v0 → VR ρ2 v v' → VR ρ v v'
  | _, _, _, .leaf h, h2 => by cases h2 <;> first | exact .leaf h | (simp [leafB] at h; done)
  | _, _, _, .ptr h h', h2 => by
    cases h2 with
    | leaf h => simp [leafB] at h
    | ptr q q' => have this := Option.some.inj (q.symm.trans (he _ _ h)); subst this; exact .ptr h h'
  | _, _, _, .slice h h', h2 => by
    cases h2 with
    | leaf h => simp [leafB] at h
    | slice q q' => have this := Option.some.inj (q.symm.trans (he _ _ h)); subst this; exact .slice h h'
    | sliceO q q' => rw [h'] at q'; cases q'
  | _, _, _, .sliceO h h', h2 => by
    cases h2 with
    | leaf h => simp [leafB] at h
    | slice q q' => rw [h'] at q'; cases q'
    | sliceO q q' =>
      have this := Option.some.inj (q.symm.trans (he _ _ h))
      subst this
      have this := Option.some.inj (q'.symm.trans h')
      subst this
      exact .sliceO h h'
  | _, _, _, .map h, h2 => by
    cases h2 with
    | leaf h => simp [leafB] at h
    | map q => have this := Option.some.inj (q.symm.trans (he _ _ h)); subst this; exact .map h
  | _, _, _, .chan h, h2 => by
    cases h2 with
    | leaf h => simp [leafB] at h
    | chan q => have this := Option.some.inj (q.symm.trans (he _ _ h)); subst this; exact .chan h
  | _, _, _, .func h h', h2 => by
    cases h2 with
    | leaf h => simp [leafB] at h
    | func q q' => exact .func (VRL.back he h q) (VRL.back he h' q')
  | _, _, _, .iface h, h2 => by
    cases h2 with
    | leaf h => simp [leafB] at h
    | iface q => exact .iface (VR.back he h q)
  | _, _, _, .agg h, h2 => by
    cases h2 with
    | leaf h => simp [leafB] at h
    | agg q => exact .agg (VRL.back he h q)
  | _, _, _, .tuple h, h2 => by
    cases h2 with
    | leaf h => simp [leafB] at h
    | tuple q => exact .tuple (VRL.back he h q)
theorem VRL.back {ρ ρ2 : Ren} (he : Ext ρ ρ2) : ∀ {l l0 l' : List Value}, VRL ρ l l0 → VRL ρ2 l l' → VRL ρ l l'
  | _, _, _, .nil, h2 => by cases h2; exact .nil
  | _, _, _, .cons h h', h2 => by cases h2 with | cons q q' => exact .cons (VR.back he h q) (VRL.back he h' q')
end

theorem ERL.back {ρ ρ2 : Ren} (he : Ext ρ ρ2) {l l0 : List MapEntry} (h : ERL ρ l l0) : ∀ {l' : List MapEntry}, ERL ρ2 l l' → ERL ρ l l' := by
  induction h with
  | nil => intro l' h2; cases h2; exact .nil
  | cons h0 _ ih =>
    intro l' h2
    cases h2 with
    | cons q q' => exact .cons ⟨q.1, q.2.1, h0.2.2.1.back he q.2.2.1, h0.2.2.2.back he q.2.2.2⟩ (ih q')

theorem OR.back {ρ ρ2 : Ren} (he : Ext ρ ρ2) {o o0 o' : Obj} (h : OR ρ o o0) (h2 : OR ρ2 o o') : OR ρ o o' := by
  cases h with
  | map h => cases h2 with | map q => exact .map (h.back he q)
  | iterN => cases h2; exact .iterN
  | iter h => cases h2 with | iter q => have this := Option.some.inj (q.symm.trans (he _ _ h)); subst this; exact .iter h
  | chan h => cases h2 with | chan q => exact .chan (h.back he q)

theorem BR.back {P : Program} {ρ ρ2 : Ren} (he : Ext ρ ρ2) {k : Blk} {s : Slot} {w w2 : World} (h : BR P ρ k s w) (h2 : BR P ρ2 k s w2) : BR P ρ k s w2 := by
  cases k with
  | cells c n t sure =>
    obtain ⟨cs, h1, _, h3, _⟩ := h
    obtain ⟨cs2, q1, q2, q3, q4⟩ := h2
    refine ⟨cs2, q1, q2, fun i hi => ?_, q4⟩
    obtain ⟨v, v0, a1, _, a3⟩ := h3 i hi
    obtain ⟨v1, v', b1, b2, b3⟩ := q3 i hi
    rw [a1] at b1
    cases b1
    exact ⟨v, v', a1, b2, a3.back he b3⟩
  | bytes c n t => exact h2
  | obj o =>
    obtain ⟨h1, o0, _, h3⟩ := h
    obtain ⟨_, o', q2, q3⟩ := h2
    exact ⟨h1, o', q2, h3.back he q3⟩
  | dead => trivial

/-- If all that was known is as it was, nothing has come of it. -/
theorem went_reset {P : Program} {base : Nat} {ρ ρ2 : Ren} {m m2 : Mem} {w w2 : World} (h : Rel P base ρ m w) (g : Went P base ρ m w ρ2 m2 w2) (hs : ∀ b k, m.blks.get b = some k → ∃ k', m2.blks.get b = some k' ∧ Same k' k) : Went P base ρ m w ρ m w2 := by
  refine ⟨Ext.refl ρ, ⟨h.dom, h.bnd, fun b k hk hd => ?_, h.inj, h.glob, h.low⟩, g.kept, fun b s hb hl _ => absurd (live_lt h hl) (by omega), Nat.le_refl _, fun _ _ h => h, fun _ _ => rfl⟩
  obtain ⟨s, h1, h2⟩ := h.im b k hk hd
  obtain ⟨k', q1, q2⟩ := hs b k hk
  obtain ⟨s2, q3, q4⟩ := g.rel.im b k' q1 (q2.symm.live hd)
  have : s2 = s := Option.some.inj (q3.symm.trans (g.ext b s h1))
  subst this
  exact ⟨s2, h1, h2.back g.ext (q4.same q2)⟩

/-! ### the loop -/
theorem loop_sound {P : Program} {base : Nat} {call : CallF} (hm : P.follows .mixedOrders = true) (hc : CallSound P base call) (c : Code) : ∀ (n : Nat) {fr fr' : Fr} {m m' : Mem} {ex : Ex} {ρ : Ren} {a : Act} {w : World} {Q : Exit → Act → World → Prop},
    Rel P base ρ m w → FR ρ fr a → iter (evCode P base call c) n fr m = some (ex, fr', m') →
    (∀ a' ρ' w', Went P base ρ m w ρ' m' w' → FR ρ' fr' a' → Q ex.exit' a' w') → LoopWp P c Q a w
  | 0, _, _, _, _, _, _, _, _, _, _, _, e, _ => by simp [iter] at e
  | n + 1, fr, fr', m, m', ex, ρ, a, w, Q, hr, hf, e, hQ => by
    simp only [iter] at e
    split at e
    · rename_i fr1 m1 h1
      exact loop_round (evCode_sound hm hc (drawn_sound hc) c hr hf h1 fun a' ρ' w' hw hf' => loop_sound hm hc c n hw.rel hf' e fun a2 ρ2 w2 hw2 hf2 => hQ a2 ρ2 w2 (Went.trans hr hw hw2) hf2)
    · rename_i hne
      refine loop_round (evCode_sound hm hc (drawn_sound hc) c hr hf e fun a' ρ' w' hw hf' => ?_)
      cases ex with
      | normal => exact absurd e (hne fr' m')
      | exit id => exact hQ a' ρ' w' hw hf'
      | ret => exact hQ a' ρ' w' hw hf'

/-- The first of the loop's steps may take either entry. -/
theorem next_two {P : Program} {base : Nat} {ρ : Ren} {m : Mem} {w : World} (h : Rel P base ρ m w) {N r : Nat} {sn : Slot} {since last clock : Nat} {e1 e2 : MapEntry} (ty : TypeId) (hsn : ρ N = some sn) (hN : m.blks.get N = some (.obj (.mapIter (some r) since #[] last))) (hbN : base ≤ N)
    (hr : m.blks.get r = some (.obj (.map #[e1, e2] clock))) (hb1 : e1.born < since) (hb2 : e2.born < since) :
    ∃ i v' w', (i = 0 ∨ i = 1) ∧ (Instr.next (.pointer (some ⟨sn.blk, 0, none⟩)) false ty).run P w = .ok v' w' ∧
      Went P base ρ m w ρ (m.wr N (.obj (.mapIter (some r) since #[(if i = 0 then e1 else e2).born] clock))) w' ∧ VR ρ (.tuple #[.bool true, (if i = 0 then e1 else e2).key, (if i = 0 then e1 else e2).val]) v' := by
  obtain ⟨hsh, o', hw, ho⟩ := obj_rel h hN hsn
  cases ho with
  | iter hsq =>
    rename_i sq
    obtain ⟨_, o2, hw2, ho2⟩ := obj_rel h hr hsq
    cases ho2 with
    | map hes =>
      rename_i es'
      obtain ⟨es'⟩ := es'
      simp only at hes
      cases hes with
      | cons g1 hes => cases hes with
        | cons g2 hes => cases hes with
          | nil =>
            rename_i e1' e2'
            have hc1 : e1'.born < since := by rw [← g1.2.1]; exact hb1
            have hc2 : e2'.born < since := by rw [← g2.2.1]; exact hb2
            -- what is drawn
            obtain ⟨i, hi, wd, hwd, hdraw⟩ : ∃ i, (i = 0 ∨ i = 1) ∧ ∃ wd : World, wd = { w with drawn := w.drawn + 1 } ∧ (choose (.mapNext 2)).run P w = .ok i wd := by
              refine ⟨w.tape w.drawn (.mapNext 2) % 2, by omega, _, rfl, ?_⟩
              simp [choose, Sem.run, Question.forced, Question.cut]
            have gd := went_drew h (w.drawn + 1)
            rw [← hwd] at gd
            have hhd : wd.heap = w.heap := by rw [hwd]
            have fin : ∀ (e e' : MapEntry), ER ρ e e' → (#[some e1', some e2'] : Array (Option MapEntry))[i]? = some (some e') → ∃ v' w', (Instr.next (.pointer (some ⟨sn.blk, 0, none⟩)) false ty).run P w = .ok v' w' ∧
                Went P base ρ m w ρ (m.wr N (.obj (.mapIter (some r) since #[e.born] clock))) w' ∧ VR ρ (.tuple #[.bool true, e.key, e.val]) v' := fun e e' her hsel => by
              have ho : OR ρ (.mapIter (some r) since #[e.born] clock) (.mapIter (some sq.blk) since #[e.born] clock) := .iter hsq
              have hm1 : setObjM base m N (.mapIter (some r) since #[e.born] clock) = some (m.wr N (.obj (.mapIter (some r) since #[e.born] clock))) := by
                unfold setObjM
                rw [if_neg (by omega), hN]
              obtain ⟨w', r1, r2⟩ := setObjM_sound gd.rel hsn (by rw [hhd]; exact hw) (by simp) ho hm1
              refine ⟨.tuple #[.bool true, e'.key, e'.val], w', ?_, Went.trans h gd r2, .tuple (.cons (.leaf rfl) (.cons her.2.2.2 (.cons her.2.2.1 .nil)))⟩
              rw [her.2.1] at r1
              simp only [Instr.next, Sem.run_bind, getObj_iter hw, getObj_map hw2, Result.andThen_ok]
              have f1 : (([e1', e2'].toArray.filter fun e => !(#[] : Array Nat).contains e.born).filter fun e => decide (e.born < since)) = #[e1', e2'] := by simp [hc1, hc2]
              have f2 : (([e1', e2'].toArray.filter fun e => !(#[] : Array Nat).contains e.born).filter fun e => decide (e.born ≥ since)) = #[] := by
                simp
                omega
              simp only [f1, f2]
              have hc0 : ((if (#[e1', e2'] : Array MapEntry).isEmpty = true then #[none] else #[]) ++ Array.map some (#[e1', e2'] ++ #[]) : Array (Option MapEntry)) = #[some e1', some e2'] := by simp
              rw [hc0]
              simp only [Array.isEmpty_empty, Bool.not_true, Bool.false_and, Bool.false_eq_true, if_false, Sem.run_bind, List.size_toArray, List.length_cons, List.length_nil, Nat.zero_add, Nat.reduceAdd, hdraw, Result.andThen_ok, hsel]
              simp [r1]
            rcases hi with rfl | rfl
            · obtain ⟨v', w', q1, q2, q3⟩ := fin e1 e1' g1 rfl
              exact ⟨0, v', w', .inl rfl, q1, q2, q3⟩
            · obtain ⟨v', w', q1, q2, q3⟩ := fin e2 e2' g2 rfl
              exact ⟨1, v', w', .inr rfl, q1, q2, q3⟩

end Go.Ev
/-
  maps.DeleteFunc over two entries, of which it deletes none: a piece.
-/
namespace Go.Ev
open Go.Proofs
set_option maxRecDepth 100000

/-- The function's parts: what is ahead of the loop, the step and the body. -/
def delParts : Code → Option (List Oper × Nat × Oper × List Oper × Code)
  | .seq (.region _ ⟨r0⟩ false) (.block j (.loop (.seq (.region _ ⟨o :: l⟩ false) rest))) => some (r0, j, o, l, rest)
  | _ => none

structure DelParts (c : Code) (r0 : List Oper) (j : Nat) (o : Oper) (l : List Oper) (rest : Code) : Prop where
  eq : ∃ i k, c = .seq (.region i r0.toArray false) (.block j (.loop (.seq (.region k (o :: l).toArray false) rest)))

theorem delParts_eq {c : Code} {r0 : List Oper} {j : Nat} {o : Oper} {l : List Oper} {rest : Code} (h : delParts c = some (r0, j, o, l, rest)) : DelParts c r0 j o l rest := by
  unfold delParts at h
  split at h
  · cases h; exact ⟨_, _, rfl⟩
  · cases h

/-- The call, if the first step takes the entry so numbered. -/
def delRun (P : Program) (base : Nat) (call : CallF) (fn : Func) (args : List Value) (m : Mem) (i : Nat) : Option Mem :=
  match fn.body with
  | none => none
  | some c => match delParts c with
    | none => none
    | some (r0, j, o, l, rest) =>
      if fn.ntmps < args.length then none else
      match evOps P base call r0 r0 { tm := Tr.ofList args 0 .e, n := fn.ntmps } m with
      | none => none
      | some (fr1, m1) => match o.op, o.guard with
        | .next it false, none => match fr1.val base it with
          | some (.pointer (some ⟨N, 0, none⟩)) => match m1.blks.get N with
            | some (.obj (.mapIter (some r) since ⟨[]⟩ _)) => match m1.blks.get r with
              | some (.obj (.map ⟨[e1, e2]⟩ clock)) =>
                if e1.born < since ∧ e2.born < since ∧ base ≤ N then
                  match fr1.put o.dst (.tuple #[.bool true, (if i = 0 then e1 else e2).key, (if i = 0 then e1 else e2).val]) with
                  | none => none
                  | some fr2 => match evOps P base call (o :: l) l fr2 (m1.wr N (.obj (.mapIter (some r) since #[(if i = 0 then e1 else e2).born] clock))) with
                    | none => none
                    | some (fr3, m3) => match evCode P base call rest fr3 m3 with
                      | some (.normal, fr4, m4) => match iter (evCode P base call (.seq (.region 1 (o :: l).toArray false) rest)) 100000 fr4 m4 with
                        | some (.exit j', _, m5) => if j' = j then some m5 else none
                        | _ => none
                      | _ => none
                else none
              | _ => none
            | _ => none
          | _ => none
        | _, _ => none

/-- The region's name in the code does not matter to the evaluator. -/
theorem iter_region {P : Program} {base : Nat} {call : CallF} {ops : Array Oper} {rest : Code} (k k' : Nat) : evCode P base call (.seq (.region k ops false) rest) = evCode P base call (.seq (.region k' ops false) rest) := by
  funext fr m
  simp only [evCode]

theorem delRun_sound {P : Program} {base : Nat} {call : CallF} (hm : P.follows .mixedOrders = true) (hc : CallSound P base call) {f : FuncId} {fn : Func} (hfn : P.funcs[f]? = some fn) (hres : fn.results = #[]) {args : List Value} {m m5a m5b : Mem}
    (ea : delRun P base call fn args m 0 = some m5a) (eb : delRun P base call fn args m 1 = some m5b)
    (ha : ∀ b k, m.blks.get b = some k → ∃ k', m5a.blks.get b = some k' ∧ Same k' k) (hb : ∀ b k, m.blks.get b = some k → ∃ k', m5b.blks.get b = some k' ∧ Same k' k) : CallsTo P base f args m (.tuple #[]) m := by
  intro ρ w args' hr hargs
  have both : ∀ i, (i = 0 ∨ i = 1) → ∃ m5, delRun P base call fn args m i = some m5 ∧ ∀ b k, m.blks.get b = some k → ∃ k', m5.blks.get b = some k' ∧ Same k' k := fun i hi => by
    rcases hi with rfl | rfl
    · exact ⟨m5a, ea, ha⟩
    · exact ⟨m5b, eb, hb⟩
  have e := ea
  unfold delRun at e
  split at e
  · cases e
  · rename_i c hbody
    split at e
    · cases e
    · rename_i r0 j o l rest hparts
      obtain ⟨i0, k0, hcode⟩ := delParts_eq hparts
      split at e
      · cases e
      · rename_i hn
        split at e
        · cases e
        · rename_i fr1 m1 hops
          split at e
          · rename_i it hop hg
            split at e
            · rename_i N hit
              split at e
              · rename_i r since last hN
                split at e
                · rename_i e1 e2 clock hrm
                  split at e
                  · rename_i hcond
                    obtain ⟨b1, b2, bN⟩ := hcond
                    clear e
                    refine calls_of_wp hfn hbody ?_
                    rw [hcode]
                    refine wp_seq ?_
                    have h0 := evOps_sound (Q := Exit.then (fun a' w' => (Code.block j (.loop (.seq (.region k0 (o :: l).toArray false) rest))).wp P (bodyPost P fn fun e w' => ∃ v' ρ', e = .returned v' ∧ Went P base ρ m w ρ' m w' ∧ VR ρ' (.tuple #[]) v') a' w') (bodyPost P fn fun e w' => ∃ v' ρ', e = .returned v' ∧ Went P base ρ m w ρ' m w' ∧ VR ρ' (.tuple #[]) v'))
                      hc (ops := r0) r0 0 (fun j => by simp) hr (start_fr hargs hn) hops fun a1 ρ1 w1 hw1 hf1 => ?_
                    · refine wp_region ?_
                      simpa [List.range_eq_range'] using h0
                    · simp only [Exit.then]
                      refine wp_block (wp_of_loop (loop_round (wp_seq (wp_region ?_))))
                      -- the first step
                      have hev := hf1.eval hw1.rel hit
                      generalize hev' : a1.eval it = x' at hev
                      cases hev with
                      | leaf h => simp [leafB] at h
                      | ptr hsn hsp =>
                        rename_i sn
                        obtain ⟨i, v', w2, hi, hrun, hw2, hv2⟩ := next_two hw1.rel o.type hsn hN bN hrm b1 b2
                        obtain ⟨m5, hd, hsame⟩ := both i hi
                        unfold delRun at hd
                        simp only [hbody, hparts, if_neg hn, hops, hop, hg, hit, hN, hrm, if_pos (show e1.born < since ∧ e2.born < since ∧ base ≤ N from ⟨b1, b2, bN⟩)] at hd
                        split at hd
                        · cases hd
                        · rename_i fr2 hput
                          split at hd
                          · cases hd
                          · rename_i fr3 m3 hops2
                            split at hd
                            · rename_i fr4 m4 hrest
                              split at hd
                              · rename_i j' fr5 m5' hiter
                                split at hd
                                · rename_i hj
                                  cases hd
                                  subst hj
                                  have hsh : sn.sh = 0 := (obj_rel hw1.rel hN hsn).1
                                  have hlen : List.range (o :: l).toArray.size = 0 :: List.range' 1 l.length := by simp [List.range_eq_range', List.range'_succ]
                                  rw [hlen]
                                  simp only [wpOps, List.getElem?_toArray, List.getElem?_cons_zero]
                                  have hwant : Region.wanted o (yielded (o :: l).toArray a1.tmps) = true := by simp [Region.wanted, hg]
                                  rw [if_pos hwant]
                                  refine .inl ?_
                                  unfold Oper.wp
                                  have hexec : (execOp a1.eval o).run P w1 = .ok (.value v') w2 := by
                                    unfold execOp
                                    simp only [hop, hev', hsh, Nat.add_zero, Sem.run_bind, hrun, Result.andThen_ok, Sem.run_pure]
                                  rw [hexec, Oper.upon_value]
                                  have hf2 := (hf1.mono hw2.ext).put hv2 hput
                                  refine evOps_sound hc (ops := o :: l) l 1 (fun j => by rw [Nat.add_comm]; rfl) hw2.rel hf2 hops2 fun a3 ρ3 w3 hw3 hf3 => ?_
                                  simp only [Exit.then]
                                  refine evCode_sound hm hc (drawn_sound hc) rest hw3.rel hf3 hrest fun a4 ρ4 w4 hw4 hf4 => ?_
                                  simp only [Ex.exit', Exit.then]
                                  rw [iter_region 1 k0] at hiter
                                  refine loop_sound hm hc _ 100000 hw4.rel hf4 hiter fun a5 ρ5 w5 hw5 hf5 => ?_
                                  simp only [Ex.exit', Exit.inBlock, if_pos]
                                  have hall := Went.trans hr (Went.trans hr (Went.trans hr (Went.trans hr hw1 hw2) hw3) hw4) hw5
                                  refine ⟨hf5.defers, .tuple #[], ?_, _, ρ, rfl, went_reset hr hall hsame, .tuple .nil⟩
                                  simp [results, hres]
                                · cases hd
                              · cases hd
                            · cases hd
                  · cases e
                · cases e
              · cases e
            · cases e
          · cases e

/-- The piece. -/
theorem delPiece {tb : List Pc} (h : ∀ p ∈ tb, p.Right Tryz.prog 3) (p : Pc) {fn : Func} (hf : Tryz.prog.funcs[p.f]? = some fn) (hlow : ∀ b, b < 3 → live p.m b)
    (hb : fn.body.isNone = false) (hn : (fn.name == "runtime.NumGoroutine") = false) (hres : fn.results = #[]) (hv : p.v = .tuple #[]) (hnx : p.next' = p.next) (hdf : p.diff = []) {d : Nat}
    (hok : ∀ i, i = 0 ∨ i = 1 → (match delRun Tryz.prog 3 (X.callN Tryz.prog 3 (sp tb) d) fn p.args p.m i with | some m5 => p.mem.all (hasIn m5.blks) | none => false) = true) : p.Right Tryz.prog 3 := by
  have key : ∀ i, i = 0 ∨ i = 1 → ∃ m5, delRun Tryz.prog 3 (evCall Tryz.prog 3 (sp tb) d) fn p.args p.m i = some m5 ∧ ∀ b k, p.m.blks.get b = some k → ∃ k', m5.blks.get b = some k' ∧ Same k' k := fun i hi => by
    have := hok i hi
    rw [X.callN_eq] at this
    split at this
    · rename_i m5 h5
      exact ⟨m5, h5, fun b k hk => hasIn_same (List.all_eq_true.1 this _ (setAll_mem _ _ _ hk))⟩
    · cases this
  obtain ⟨ma, ea, ha⟩ := key 0 (.inl rfl)
  obtain ⟨mb, eb, hb'⟩ := key 1 (.inr rfl)
  refine ⟨⟨fn, hf, hb, hn⟩, hlow, p.m, ?_, hnx.symm, fun b k hk => ?_, fun b k hk _ => ⟨k, hk, .refl k⟩⟩
  · rw [hv]
    exact delRun_sound mixed (ev_sound mixed noNum (sp_sound h) d) hf hres ea eb ha hb'
  · rw [hdf] at hk; cases hk

end Go.Ev
/-
  Words for memory that is written out.
-/
namespace Go.Ev
open Go.Proofs
set_option maxRecDepth 100000
noncomputable section

def I (n : Nat) : Value := .int .i64 (.ofNat n)
def Y (n : Nat) : Value := .int .u8 (.ofNat n)
def C (t : TypeId) (s : Bool) (l : List Value) : Blk := .cells (X.setN .e 0 l) l.length t s
def setNs (l : List Nat) : Tr Nat → Nat → Tr Nat := @List.rec Nat (fun _ => Tr Nat → Nat → Tr Nat) (fun c _ => c) (fun v _ ih c i => ih (X.ins v c i) (Nat.succ i)) l
def B (t : TypeId) (l : List Nat) : Blk := .bytes (setNs l .e 0) l.length t

def lowB (l : BL) : Bool := (List.range 3).all fun b => match X.get (setAll l .e) b with | some (.cells ..) => true | _ => false
theorem low {p : Pc} (h : lowB p.mem = true) : ∀ b, b < 3 → live p.m b := fun b hb => by
  have := List.all_eq_true.1 h b (List.mem_range.2 hb)
  split at this
  · rename_i c n t s hk
    rw [X.get_eq] at hk
    exact ⟨_, hk, by simp⟩
  · cases this

end
end Go.Ev
