import Derived.Test.YtldgldibkibknaaHigh
import Derived.StillTactics
import Derived.Laws.OwnMore
namespace Go.Proofs.Ytldgldibkibknaa
open Go.RowKit Go.Shelf
attribute [local go_sem] Oper.semAt_some

/-- Bit k as a number. -/
def bi (bs : List Bool) (k : Nat) : Nat := if bs.getD k false then 1 else 0
/-- Byte i of bits, the highest first. -/
def by8 (bs : List Bool) (i : Nat) : Nat := bi bs (8*i) * 128 + bi bs (8*i+1) * 64 + bi bs (8*i+2) * 32 + bi bs (8*i+3) * 16 + bi bs (8*i+4) * 8 + bi bs (8*i+5) * 4 + bi bs (8*i+6) * 2 + bi bs (8*i+7)
/-- The first N bytes. -/
def pk (bs : List Bool) (N : Nat) : List Nat := (List.range N).map (by8 bs)
theorem pk_len (bs : List Bool) (N : Nat) : (pk bs N).length = N := by simp [pk]
theorem bi_le (bs : List Bool) (k : Nat) : bi bs k ≤ 1 := by unfold bi; split <;> omega
theorem by8_lt (bs : List Bool) (i : Nat) : by8 bs i < 256 := by
  have := bi_le bs (8*i); have := bi_le bs (8*i+1); have := bi_le bs (8*i+2); have := bi_le bs (8*i+3); have := bi_le bs (8*i+4); have := bi_le bs (8*i+5); have := bi_le bs (8*i+6); have := bi_le bs (8*i+7)
  unfold by8; omega
theorem bi_out (bs : List Bool) (k : Nat) (h : bs.length ≤ k) : bi bs k = 0 := by unfold bi; simp [List.getD, List.getElem?_eq_none h]
theorem bi_snoc (bs : List Bool) (b : Bool) (k : Nat) (h : k ≠ bs.length) : bi (bs ++ [b]) k = bi bs k := by
  rcases Nat.lt_or_ge k bs.length with hlt | hge
  · have e : (bs ++ [b]).getD k false = bs.getD k false := by simp only [List.getD, List.getElem?_append_left hlt]
    unfold bi; rw [e]
  · rw [bi_out bs k hge, bi_out _ _ (by simp; omega)]
theorem bi_last (bs : List Bool) (b : Bool) : bi (bs ++ [b]) bs.length = if b then 1 else 0 := by unfold bi; simp [List.getD]
theorem by8_out (bs : List Bool) (i : Nat) (h : bs.length ≤ 8 * i) : by8 bs i = 0 := by
  unfold by8; rw [bi_out, bi_out, bi_out, bi_out, bi_out, bi_out, bi_out, bi_out] <;> omega
theorem by8_other (bs : List Bool) (b : Bool) (i : Nat) (h : i ≠ bs.length / 8) : by8 (bs ++ [b]) i = by8 bs i := by
  unfold by8; rw [bi_snoc, bi_snoc, bi_snoc, bi_snoc, bi_snoc, bi_snoc, bi_snoc, bi_snoc] <;> omega
theorem by8_here (bs : List Bool) (b : Bool) : by8 (bs ++ [b]) (bs.length / 8) = by8 bs (bs.length / 8) + (if b then 1 else 0) * 2 ^ (7 - bs.length % 8) := by
  have h8 : bs.length % 8 < 8 := Nat.mod_lt _ (by decide)
  have hl : 8 * (bs.length / 8) + bs.length % 8 = bs.length := Nat.div_add_mod _ _
  have hlast := bi_last bs b
  have hz := bi_out bs bs.length (Nat.le_refl _)
  unfold by8
  generalize bs.length / 8 = q at *
  generalize hr : bs.length % 8 = r at *
  rcases (by omega : r = 0 ∨ r = 1 ∨ r = 2 ∨ r = 3 ∨ r = 4 ∨ r = 5 ∨ r = 6 ∨ r = 7) with h | h | h | h | h | h | h | h <;> subst h <;>
    (rw [← hl] at hlast hz
     try simp only [Nat.add_zero] at hlast hz
     rw [hlast, hz]
     repeat rw [bi_snoc _ _ _ (by omega)]
     split <;> simp <;> omega)

theorem or_u8_nat (a b : Nat) (ha : a < 256) (hb : b < 256) : bits .or .u8 (a : Int) (b : Int) = ((a ||| b : Nat) : Int) := by
  have hx : a ||| b < 2 ^ 8 := Nat.or_lt_two_pow (by omega) (by omega)
  have h1 : (BitVec.ofInt 8 (a : Int)).toNat = a := by
    rw [BitVec.ofInt_natCast, BitVec.toNat_ofNat]; exact Nat.mod_eq_of_lt (by omega)
  have h2 : (BitVec.ofInt 8 (b : Int)).toNat = b := by
    rw [BitVec.ofInt_natCast, BitVec.toNat_ofNat]; exact Nat.mod_eq_of_lt (by omega)
  show IntKind.u8.wrap ((BitVec.ofInt 8 (a : Int) ||| BitVec.ofInt 8 (b : Int)).toNat : Int) = _
  rw [BitVec.toNat_or, h1, h2, IntKind.wrap_u8]
  omega
theorem by8_low (bs : List Bool) (k : Nat) (hk : 7 - bs.length % 8 = k) : by8 bs (bs.length / 8) % 2 ^ (k + 1) = 0 := by
  have h8 : bs.length % 8 < 8 := Nat.mod_lt _ (by decide)
  have hl : 8 * (bs.length / 8) + bs.length % 8 = bs.length := Nat.div_add_mod _ _
  have hz : ∀ j, bs.length % 8 ≤ j → bi bs (8 * (bs.length / 8) + j) = 0 := fun j hj => bi_out bs _ (by omega)
  unfold by8
  generalize bs.length / 8 = q at *
  generalize hr : bs.length % 8 = r at *
  have z0 := hz 0; have z1 := hz 1; have z2 := hz 2; have z3 := hz 3; have z4 := hz 4; have z5 := hz 5; have z6 := hz 6; have z7 := hz 7
  simp only [Nat.add_zero] at z0
  rcases (by omega : r = 0 ∨ r = 1 ∨ r = 2 ∨ r = 3 ∨ r = 4 ∨ r = 5 ∨ r = 6 ∨ r = 7) with h | h | h | h | h | h | h | h <;> subst h <;> subst hk <;> simp only [Nat.reduceSub, Nat.reduceAdd, Nat.reducePow] <;> omega
theorem or_here (bs : List Bool) (k : Nat) (hk : 7 - bs.length % 8 = k) (b : Bool) (c : Nat) (hc : (if b then 1 else 0) = c) :
    by8 bs (bs.length / 8) ||| (c * 2 ^ k) = by8 (bs ++ [b]) (bs.length / 8) := by
  have h0 := by8_low bs k hk
  rw [by8_here, hc, hk]
  have hd := Nat.div_add_mod (by8 bs (bs.length / 8)) (2 ^ (k + 1))
  rw [h0, Nat.add_zero] at hd
  have hlt : c * 2 ^ k < 2 ^ (k + 1) := by
    rw [Nat.pow_succ]
    have : c ≤ 1 := by rw [← hc]; split <;> omega
    have hp : 0 < 2 ^ k := Nat.two_pow_pos k
    have : c * 2 ^ k ≤ 1 * 2 ^ k := Nat.mul_le_mul_right _ this
    omega
  rw [← hd, Nat.two_pow_add_eq_or_of_lt hlt]

structure Frm (w w' : World) (g : Nat) (r : Option Nat) : Prop where
  os : w'.os = w.os
  tape : w'.tape = w.tape
  output : w'.output = w.output
  size : w.heap.size ≤ w'.heap.size
  block : ∀ k, k < w.heap.size → k ≠ g → some k ≠ r → w'.heap[k]? = w.heap[k]?
section
variable {w w1 w2 : World} {g : Nat} {r r1 : Option Nat}
theorem Frm.refl (w : World) (g : Nat) (r : Option Nat) : Frm w w g r := ⟨rfl, rfl, rfl, Nat.le_refl _, fun _ _ _ _ => rfl⟩
theorem Frm.trans (h : Frm w w1 g r) (k : Frm w1 w2 g r1) (hr : r1 = r ∨ ∀ j, r1 = some j → w.heap.size ≤ j) : Frm w w2 g r :=
  ⟨k.os.trans h.os, k.tape.trans h.tape, k.output.trans h.output, Nat.le_trans h.size k.size, fun i hi hg hn => (k.block i (Nat.lt_of_lt_of_le hi h.size) hg (by
    rcases hr with rfl | hr
    · exact hn
    · intro e; have := hr i e.symm; omega)).trans (h.block i hi hg hn)⟩
theorem Frm.grown (h : Frm w w1 g r) (k : w1.grownBy w2 r1) (hr : r1 = r ∨ r1 = some g ∨ ∀ j, r1 = some j → w.heap.size ≤ j) : Frm w w2 g r :=
  ⟨k.os.trans h.os, k.tape.trans h.tape, k.output.trans h.output, Nat.le_trans h.size k.size, fun i hi hg hn => (k.block i (Nat.lt_of_lt_of_le hi h.size) (by
    rcases hr with rfl | rfl | hr
    · exact hn
    · intro e; injection e with e; exact hg e
    · intro e; have := hr i e.symm; omega)).trans (h.block i hi hg hn)⟩
end

/-- Block g is a writer that has these bits; v is its row. -/
structure Wr (w : World) (g : Nat) (bs : List Bool) (v : Value) : Prop where
  blk : Blk w g 33 #[v, .int .i64 bs.length]
  row : w.ownsRow (g + 1) 5 1 v ((bs.length + 7) / 8) ((pk bs ((bs.length + 7) / 8)).map bv)

theorem cells_kept {A B : World} {row : Option Nat} (hg : A.grownBy B row) (hr : ∀ r, row = some r → ∃ o : Obj, A.heap[r]? = some o ∧ o.isCells = false) {k : Nat} {o : Obj} (ho : A.heap[k]? = some o) (hc : o.isCells = true) : B.heap[k]? = some o := by
  refine (hg.block k (Array.getElem?_eq_some_iff.1 ho).1 ?_).trans ho
  intro e
  obtain ⟨o', h1, h2⟩ := hr k e.symm
  rw [ho] at h1
  cases h1
  rw [hc] at h2
  cases h2
theorem Wr.kept {A B : World} {row : Option Nat} {g : Nat} {bs : List Bool} {v : Value} (h : Wr A g bs v) (hg : A.grownBy B row) (hr : ∀ r, row = some r → ∃ o : Obj, A.heap[r]? = some o ∧ o.isCells = false) : Wr B g bs v := by
  refine ⟨cells_kept hg hr h.blk rfl, h.row.1, ?_⟩
  rcases h.row.2 with h2 | ⟨g', cap, cur, hv, hb, hh, hx⟩
  · exact .inl h2
  · exact .inr ⟨g', cap, cur, hv, hb, cells_kept hg hr hh rfl, hx⟩

theorem World.grownBy_setCell' (w : World) (g i : Nat) (u : Value) : w.grownBy (w.setCell ⟨g, i, none⟩ u) (some g) := only_put (World.grownBy.refl w _) i u
theorem Blk.other {w : World} {k g : Nat} {t : TypeId} {cs : Array Value} (h : Blk w k t cs) (i : Nat) (u : Value) (hne : k ≠ g) : Blk (w.setCell ⟨g, i, none⟩ u) k t cs :=
  (Below.heap_setCell w ⟨g, i, none⟩ u k hne).trans h
theorem Frm.keepsFrom {W Z : World} {g B base e n : Nat} {v : Value} {xs : List Value} (h : Frm W Z g v.ownBlock) (hrow : W.ownsRow base e 1 v n xs) (hB : g < B) : KeepsFrom B W Z :=
  ⟨h.size, fun k o hk ho hc => (h.block k (Array.getElem?_eq_some_iff.1 ho).1 (by omega) (fun e => by
    rcases hrow.2 with ⟨hv, _⟩ | ⟨g', cap, cur, hv, hb, hh, _⟩
    · subst hv; cases e
    · subst hv; injection e with e
      simp at e; subst e
      rw [ho] at hh; cases hh; cases hc)).trans ho⟩
theorem Frm.kp {W Z : World} {g B1 B2 : Nat} {r : Option Nat} (h : Frm W Z g r) (h1 : B1 ≠ g ∧ some B1 ≠ r) (h2 : B2 ≠ g ∧ some B2 ≠ r) : Kp B1 B2 W Z := fun k o hk ho =>
  (h.block k (Array.getElem?_eq_some_iff.1 ho).1 (by rcases hk with rfl | rfl; exact h1.1; exact h2.1) (by rcases hk with rfl | rfl; exact h1.2; exact h2.2)).trans ho
theorem pk_set (bs : List Bool) (b : Bool) (q : Nat) (hq : bs.length / 8 = q) : ((pk bs (q + 1)).map bv).set q (.int .u8 (by8 (bs ++ [b]) q : Nat)) = (pk (bs ++ [b]) (q + 1)).map bv := by
  unfold pk
  rw [List.range_succ]
  simp only [List.map_append, List.map_cons, List.map_nil]
  rw [List.set_append_right _ _ (by simp)]
  simp only [List.length_map, List.length_range, Nat.sub_self, List.set_cons_zero]
  congr 1
  refine List.ext_getElem? fun i => ?_
  simp only [List.getElem?_map]
  by_cases hi : i < q
  · rw [List.getElem?_range hi]
    simp only [Option.map_some]
    rw [by8_other bs b i (by omega)]
  · have e : (List.range q)[i]? = none := List.getElem?_eq_none (by simpa using Nat.le_of_not_lt hi)
    rw [e]; rfl
theorem Try.info5 : (Try.prog.info? 5).map (fun i => (i.zero, i.size, i.bytes)) = some (some (.int .u8 0), 1, 1) := by kernel_rfl

/-- Where Put's round stands. -/
structure St (w W : World) (g B1 Bg : Nat) (bs : List Bool) (v0 v : Value) : Prop where
  wr : Wr W g bs v
  box : Blk W Bg 24 #[.pointer (some ⟨g, 0, none⟩)]
  row : v.ownBlock = v0.ownBlock ∨ ∀ k, v.ownBlock = some k → B1 ≤ k
  frm : Frm w W g v0.ownBlock
  big : B1 ≤ W.heap.size

theorem St.kept {w A B : World} {row : Option Nat} {g B1 Bg : Nat} {bs : List Bool} {v0 v : Value} (h : St w A g B1 Bg bs v0 v) (hg : A.grownBy B row) (hB : w.heap.size ≤ B1) (hr : ∀ r, row = some r → B1 ≤ r ∧ ∃ o : Obj, A.heap[r]? = some o ∧ o.isCells = false) : St w B g B1 Bg bs v0 v :=
  ⟨h.wr.kept hg (fun r e => (hr r e).2), cells_kept hg (fun r e => (hr r e).2) h.box rfl, h.row, h.frm.grown hg (.inr (.inr fun j e => Nat.le_trans hB (hr j e).1)), Nat.le_trans h.big hg.size⟩

def PR (g N : Nat) (x : Int) (y : Bool) (L B0 : Nat) (v : Value) (bs : List Bool) (W : World) (a' : Act) (X : World) : Prop := ∃ B t18 t19 t20 t21 t22 t23 t24 t25 t26 r c, a' = { tmps := #[.pointer (some ⟨g, 0, none⟩), .int .u64 N, .int .i64 x, .pointer (some ⟨B0, 0, none⟩), undef, undef, bt y, .int .u64 N, .int .i64 x, .int .i64 (inn x), .func (.func 32) #[] #[.pointer (some ⟨B0 + 1 + 1, 0, none⟩), .pointer (some ⟨B0 + 1, 0, none⟩)], bt y, .pointer (some ⟨g, 0, none⟩), .pointer (some ⟨g, 0, none⟩), .pointer (some ⟨g, 1, none⟩), .int .i64 L, .int .i64 ((L:Int) % 8), .bool B, t18, t19, t20, t21, t22, t23, t24, t25, t26, undef, undef, undef, undef, undef, undef, undef, undef, undef, undef, undef, undef, undef, undef, undef, undef, undef, undef, undef, undef, undef, undef, undef, undef, undef, undef, undef, undef], defers := [] } ∧ Blk X g 33 #[.slice (some ⟨r, 0, none⟩) (L / 8 + 1) c, .int .i64 L] ∧
        X.ownsRow (g + 1) 5 1 (.slice (some ⟨r, 0, none⟩) (L / 8 + 1) c) (L / 8 + 1) ((pk bs (L / 8 + 1)).map bv) ∧ Blk X B0 24 #[.pointer (some ⟨g, 0, none⟩)] ∧ (v.ownBlock = some r ∨ W.heap.size ≤ r) ∧ Frm W X g v.ownBlock

set_option maxRecDepth 100000 in
set_option maxHeartbeats 2000000 in
/-- **Put**: the number's lowest bits come behind all. -/
theorem put_in (g N : Nat) (x : Int) (hN : N < 18446744073709551616) (bs : List Bool) (hl : bs.length ≤ 1000000) (v0 : Value) (w : World) (hw : Wr w g bs v0) :
    CallsIn Fence.wide 3 Try.prog 15 #[.pointer (some ⟨g, 0, none⟩), .int .u64 N, .int .i64 x] w fun e w' => e = .returned (.tuple #[]) ∧
      ∃ v, Wr w' g (bs ++ hb N (inn x)) v ∧ (v.ownBlock = v0.ownBlock ∨ ∀ k, v.ownBlock = some k → w.heap.size ≤ k) ∧ Frm w w' g v0.ownBlock := by
  refine callsIn_of_wp_marks Try.func15 rfl trivial ?_ rfl
  simp only [Try.ntmps15, List.size_toArray, List.length_cons, List.length_nil, Nat.reduceAdd, Nat.reduceSub, Array.replicate_succ, Array.replicate_zero, List.push_toArray, List.append_toArray, List.nil_append, List.cons_append]
  gi_wp2_with (first
    | (refine ⟨trivial, ?_⟩; gi_at_call 29; refine (within_in 2 x _).mono ?_; rintro e w' ⟨rfl, rfl⟩)
    | (refine ⟨trivial, ?_⟩; gi_at_call 28; refine (high_in 2 N _ _).mono ?_; rintro e w' ⟨rfl, rfl⟩))
  have hg := hw.blk.lt
  have bX := Blk.new w 24 #[.pointer (some ⟨g, 0, none⟩)]
  obtain ⟨w1, hw1⟩ : ∃ w1, w.alloc (.cells #[.pointer (some ⟨g, 0, none⟩)] 24) = w1 := ⟨_, rfl⟩
  have hs1 : w1.heap.size = w.heap.size + 1 := by rw [← hw1, World.size_alloc]
  have f1 : w.grownBy w1 none := by rw [← hw1]; exact World.grownBy_alloc w _ none
  rw [hw1] at bX ⊢
  have b2 := (Blk.new w1 31 #[.int .u64 (N:Int)]).alloc (.cells #[.int .i64 (inn x)] 3)
  have b3 := Blk.new (w1.alloc (.cells #[.int .u64 (N:Int)] 31)) 3 #[.int .i64 (inn x)]
  have f2 : w1.grownBy ((w1.alloc (.cells #[.int .u64 (N:Int)] 31)).alloc (.cells #[.int .i64 (inn x)] 3)) none := only_trans (World.grownBy_alloc w1 _ none) (World.grownBy_alloc _ _ none)
  rw [World.size_alloc] at b3
  have bX2 := bX.grown f2 (by simp)
  obtain ⟨w2, hw2⟩ : ∃ w2, (w1.alloc (.cells #[.int .u64 (N:Int)] 31)).alloc (.cells #[.int .i64 (inn x)] 3) = w2 := ⟨_, rfl⟩
  have hs2 : w2.heap.size = w.heap.size + 3 := by rw [← hw2, World.size_alloc, World.size_alloc, hs1]
  rw [hw2] at b2 b3 f2 bX2 ⊢
  rw [hs1] at b2 b3
  have f3 := only_trans f1 f2
  have s0 : St w w2 g w2.heap.size w.heap.size bs v0 v0 := ⟨hw.kept f3 (by simp), bX2, .inl rfl, (Frm.refl w g _).grown f3 (.inr (.inr (by simp))), Nat.le_refl _⟩
  refine wpIn_rangeFunc_ownG rfl (by decide) (gf := 32) (lb := #[.pointer (some ⟨w.heap.size + 1 + 1, 0, none⟩), .pointer (some ⟨w.heap.size + 1, 0, none⟩)]) rfl trivial (enters_of Try.func32 (by kernel_rfl) rfl)
    (high_stops 2 (by decide) (w.heap.size + 1 + 1) (w.heap.size + 1) N (inn x) hN (inn_le x) w2 b3 b2) (fun h k j o hj ho => k j o hj (h j o hj ho))
    (fun W l o o' hl ho _ _ j oj hj hoj => (World.putObj_heap_other (by rcases hj with rfl | rfl <;> omega)).trans hoj) (Below.refl _ _) (fun _ => rfl)
    (fun pre W => ∃ v, St w W g w2.heap.size w.heap.size (bs ++ pre) v0 v)
    (fun _ _ _ => False)
    (fun s A B row hs hg hr => by obtain ⟨v, h⟩ := hs; exact ⟨v, h.kept hg (by omega) hr⟩)
    (fun _ _ _ _ _ hs _ _ => hs)
    ⟨v0, by rw [List.append_nil]; exact s0⟩
    (fun y => { tmps := #[.pointer (some ⟨g, 0, none⟩), .int .u64 N, .int .i64 x, .pointer (some ⟨w.heap.size, 0, none⟩), undef, undef, bt y, .int .u64 N, .int .i64 x, .int .i64 (inn x), .func (.func 32) #[] #[.pointer (some ⟨w.heap.size + 1 + 1, 0, none⟩), .pointer (some ⟨w.heap.size + 1, 0, none⟩)], bt y, undef, undef, undef, undef, undef, undef, undef, undef, undef, undef, undef, undef, undef, undef, undef, undef, undef, undef, undef, undef, undef, undef, undef, undef, undef, undef, undef, undef, undef, undef, undef, undef, undef, undef, undef, undef, undef, undef, undef, undef, undef, undef, undef], defers := [] }) ?assign ?body ?done ?stop
  case assign =>
    intro l x W K hK
    gi_wp2
    exact hK
  case body =>
    rintro l pre y W ⟨v, hS⟩ hlt
    obtain ⟨⟨hblk, hrow⟩, hbox, hown, hfrm, hbig⟩ := hS
    have HROW := Lib.hid hrow
    have HFRM := Lib.hid hfrm
    have hc0 := hblk.cell 0
    have hc1 := hblk.cell 1
    have hx0 := hbox.cell 0
    simp only [List.getElem?_toArray, List.getElem?_cons_zero, List.getElem?_cons_succ] at hc0 hc1 hx0
    obtain ⟨L, hL⟩ : ∃ L, (bs ++ pre).length = L := ⟨_, rfl⟩
    rw [hL] at hc1 hblk
    gi_wp2
    · have h8 : L % 8 = 0 := by
        have h : ((L : Int) % 8 == 0) = true := by assumption
        simp at h; omega
      have hq : (L + 7) / 8 = L / 8 := by omega
      rw [hL, hq] at hrow
      refine wpIn_region_round_post (Post := PR g N x y L w.heap.size v (bs ++ pre) W) (by kernel_rfl) (by kernel_rfl) ?post ?walk
      case walk =>
        obtain ⟨i0, hi, hz0, hz1, hz2⟩ := info_parts Try.info5
        have hne : some g ≠ v.ownBlock := fun e => by
          rcases hrow.2 with ⟨hv, _⟩ | ⟨g', cap, cur, hv, hb, _⟩
          · subst hv; cases e
          · subst hv; injection e with e; simp at e; omega
        have hsz : ((pk (bs ++ pre) (L / 8)).map bv ++ [.int .u8 0]) = (pk (bs ++ pre) (L / 8 + 1)).map bv := by
          have : by8 (bs ++ pre) (L / 8) = 0 := by8_out _ _ (by omega)
          simp [pk, List.range_succ, this, bv]
        have hne2 : some w.heap.size ≠ v.ownBlock := fun e => by
          rcases hown with h | h
          · rcases hw.row.2 with ⟨hv, _⟩ | ⟨g', cap, cur, hv, hb, hh, _⟩
            · subst hv; rw [h] at e; cases e
            · subst hv; rw [h] at e; injection e with e
              have := (Array.getElem?_eq_some_iff.1 hh).1
              simp at e; omega
          · have := h _ e.symm; omega
        have HN2 := Lib.hid hne2
        have HS := Lib.hid hsz
        have HN := Lib.hid hne
        have HR := Lib.hid hrow
        have HB := Lib.hid hblk
        have HX := Lib.hid hbox
        have HF := Lib.hid hfrm
        have hWs : g < W.heap.size := hblk.lt
        have hLl : L / 8 ≤ 200000 := by
          have := inn_le x
          rw [List.length_append] at hL
          omega
        clear hsz hne hne2 hrow hblk hbox hfrm hown hw bX bX2 b2 b3 s0 f1 f2 f3 hw2 hw1
        have HH : ∀ r c X, X.ownsRow (g + 1) 5 1 (.slice (some ⟨r, 0, none⟩) (L / 8 + 1) c) (L / 8 + 1) ((pk (bs ++ pre) (L / 8)).map bv ++ [.int .u8 0]) → (W.drew.alloc (.cells #[.int .u8 0] 5)).grownBy X v.ownBlock → (v.ownBlock = some r ∨ r = (W.drew.alloc (.cells #[.int .u8 0] 5)).heap.size) →
            Hid (Blk (X.setCell ⟨g, 0, none⟩ (.slice (some ⟨r, 0, none⟩) (L / 8 + 1) c)) g 33 #[.slice (some ⟨r, 0, none⟩) (L / 8 + 1) c, .int .i64 L] ∧ (X.setCell ⟨g, 0, none⟩ (.slice (some ⟨r, 0, none⟩) (L / 8 + 1) c)).ownsRow (g + 1) 5 1 (.slice (some ⟨r, 0, none⟩) (L / 8 + 1) c) (L / 8 + 1) ((pk (bs ++ pre) (L / 8 + 1)).map bv) ∧ Blk (X.setCell ⟨g, 0, none⟩ (.slice (some ⟨r, 0, none⟩) (L / 8 + 1) c)) w.heap.size 24 #[.pointer (some ⟨g, 0, none⟩)] ∧ (v.ownBlock = some r ∨ W.heap.size ≤ r) ∧ Frm W (X.setCell ⟨g, 0, none⟩ (.slice (some ⟨r, 0, none⟩) (L / 8 + 1) c)) g v.ownBlock) ∧
              X.cell? ⟨g, 0, none⟩ = some v ∧ X.frozen? ⟨g, 0, none⟩ = false ∧ X.cell? ⟨w.heap.size, 0, none⟩ = some (.pointer (some ⟨g, 0, none⟩)) := by
          intro r c X hown' hgrow hat
          have hb := (Blk.alloc (w := W.drew) HB.out (.cells #[.int .u8 0] 5)).grown hgrow HN.out
          have hbx := (Blk.alloc (w := W.drew) HX.out (.cells #[.int .u8 0] 5)).grown hgrow HN2.out
          have hG : W.grownBy X v.ownBlock := only_trans (b := W.drew.alloc (.cells #[.int .u8 0] 5)) ⟨rfl, rfl, rfl, by simp, fun k hk _ => Below.heap_alloc W.drew _ k hk⟩ hgrow
          rw [HS.out] at hown'
          refine ⟨Lib.hid ⟨hb.put 0 _, ownsRow_setCell_below hown' (by simp) _, hbx.other _ _ (by omega), hat.imp id (fun e => by rw [e]; simp), ((Frm.refl W g _).grown hG (.inl rfl)).grown (World.grownBy_setCell' X g 0 _) (.inr (.inl rfl))⟩, by simpa using hb.cell 0, hb.free 0, by simpa using hbx.cell 0⟩
        have hA0 : (W.alloc (.cells #[.int .u8 0] 5)).cell? ⟨g, 0, none⟩ = some v := by simpa using (Blk.alloc HB.out (.cells #[.int .u8 0] 5)).cell 0
        have hAx : (W.alloc (.cells #[.int .u8 0] 5)).cell? ⟨w.heap.size, 0, none⟩ = some (.pointer (some ⟨g, 0, none⟩)) := by simpa using (Blk.alloc HX.out (.cells #[.int .u8 0] 5)).cell 0
        refine wpAny_ready (rs := [0, 1, 5]) (by kernel_rfl) (by simp) ?_
        refine AllReady.cons rfl (fun K hK => ?_) ?_
        · go_simp
          refine hK _ _ ?_
          clear hK K
          refine wpAny_ready (rs := [1, 5]) (by kernel_rfl) (by simp) ?_
          refine AllReady.cons rfl (fun K hK => ?_) ?_
          · go_simp
            refine hK _ _ ?_
            clear hK K
            refine wpAny_take (i := 2) (v := ?_) rfl (by kernel_rfl) (by kernel_rfl) (by kernel_rfl) (fun _ _ _ h => nomatch h.1) (Or.inl ⟨by rfl, ?_⟩) ?_
            rotate_left 1
            · (intro w; go_simp; try with_reducible rfl)
            refine wpAny_take (i := 3) (v := ?_) rfl (by kernel_rfl) (by kernel_rfl) (by kernel_rfl) (fun _ _ _ h => nomatch h.1) (Or.inl ⟨by rfl, ?_⟩) ?_
            rotate_left 1
            · (intro w; go_simp; try with_reducible rfl)
            refine wpAny_ready (rs := [4, 5]) (by kernel_rfl) (by simp) ?_
            refine AllReady.cons rfl (fun K hK => ?_) ?_
            · go_simp
              refine hK _ _ ?_
              clear hK K
              refine wpAny_ready (rs := [5]) (by kernel_rfl) (by simp) ?_
              refine AllReady.cons rfl (fun K hK => ?_) ?_
              · go_simp
                refine hK _ _ ?_
                clear hK K
                refine wpAny_ready (rs := [6]) (by kernel_rfl) (by simp) ?_
                refine AllReady.cons rfl (fun K hK => ?_) ?_
                · refine step_append_lies (W.drew.alloc (.cells #[.int .u8 0] 5)) rfl (.tmp 22) (.tmp 23) 27 rfl (g + 1) 5 i0 (.int .u8 0) 1 1 Try.underlying27 hi hz0 hz1 hz2 rfl (by decide) v (L / 8) _ rfl (HR.out.alloc _) ⟨W.heap.size, 0, none⟩ 1 1 [.int .u8 0] rfl rfl (cell_one_new _ _ _) (by simp [Value.oneCell']) (by decide) (by simp only [maxLen]; omega) (by omega) (by simp; omega) _ rfl ?_
                  intro r c X hown' hgrow hat hlt'
                  obtain ⟨HL, hd0, hd1, hdx⟩ := HH r c X hown' hgrow hat
                  clear hown' hgrow hat
                  try go_simp
                  refine hK _ _ ?_
                  clear hK K
                  refine wpAny_take (i := 7) (v := ?_) rfl (by kernel_rfl) (by kernel_rfl) (by kernel_rfl) (fun _ _ _ h => nomatch h.1) (Or.inl ⟨by rfl, ?_⟩) ?_
                  rotate_left 1
                  · (intro w; go_simp; try with_reducible rfl)
                  refine wpAny_take (i := 8) (v := ?_) rfl (by kernel_rfl) (by kernel_rfl) (by kernel_rfl) (fun _ _ _ h => nomatch h.1) (Or.inl ⟨by rfl, ?_⟩) ?_
                  rotate_left 1
                  · (intro w; go_simp; try with_reducible rfl)
                  refine wpAny_ready (rs := [9]) (by kernel_rfl) (by simp) ?_
                  refine AllReady.cons rfl (fun K hK => ?_) ?_
                  · go_simp
                    refine hK _ _ ?_
                    clear hK K
                    refine wpAny_done (by kernel_rfl) ?_ _
                    exact ⟨rfl, _, _, _, _, _, _, _, _, _, _, _, _, rfl, HL.out⟩
                  exact AllReady.nil
                exact AllReady.nil
              exact AllReady.nil
            refine AllReady.cons rfl (fun K hK => ?_) ?_
            · go_simp
              refine hK _ _ ?_
              clear hK K
              refine wpAny_ready (rs := [4]) (by kernel_rfl) (by simp) ?_
              refine AllReady.cons rfl (fun K hK => ?_) ?_
              · go_simp
                refine hK _ _ ?_
                clear hK K
                refine wpAny_ready (rs := [6]) (by kernel_rfl) (by simp) ?_
                refine AllReady.cons rfl (fun K hK => ?_) ?_
                · refine step_append_lies (W.drew.alloc (.cells #[.int .u8 0] 5)) rfl (.tmp 22) (.tmp 23) 27 rfl (g + 1) 5 i0 (.int .u8 0) 1 1 Try.underlying27 hi hz0 hz1 hz2 rfl (by decide) v (L / 8) _ rfl (HR.out.alloc _) ⟨W.heap.size, 0, none⟩ 1 1 [.int .u8 0] rfl rfl (cell_one_new _ _ _) (by simp [Value.oneCell']) (by decide) (by simp only [maxLen]; omega) (by omega) (by simp; omega) _ rfl ?_
                  intro r c X hown' hgrow hat hlt'
                  obtain ⟨HL, hd0, hd1, hdx⟩ := HH r c X hown' hgrow hat
                  clear hown' hgrow hat
                  try go_simp
                  refine hK _ _ ?_
                  clear hK K
                  refine wpAny_take (i := 7) (v := ?_) rfl (by kernel_rfl) (by kernel_rfl) (by kernel_rfl) (fun _ _ _ h => nomatch h.1) (Or.inl ⟨by rfl, ?_⟩) ?_
                  rotate_left 1
                  · (intro w; go_simp; try with_reducible rfl)
                  refine wpAny_take (i := 8) (v := ?_) rfl (by kernel_rfl) (by kernel_rfl) (by kernel_rfl) (fun _ _ _ h => nomatch h.1) (Or.inl ⟨by rfl, ?_⟩) ?_
                  rotate_left 1
                  · (intro w; go_simp; try with_reducible rfl)
                  refine wpAny_ready (rs := [9]) (by kernel_rfl) (by simp) ?_
                  refine AllReady.cons rfl (fun K hK => ?_) ?_
                  · go_simp
                    refine hK _ _ ?_
                    clear hK K
                    refine wpAny_done (by kernel_rfl) ?_ _
                    exact ⟨rfl, _, _, _, _, _, _, _, _, _, _, _, _, rfl, HL.out⟩
                  exact AllReady.nil
                exact AllReady.nil
              exact AllReady.nil
            exact AllReady.nil
          refine AllReady.cons rfl (fun K hK => ?_) ?_
          · go_simp
            refine hK _ _ ?_
            clear hK K
            refine wpAny_ready (rs := [1]) (by kernel_rfl) (by simp) ?_
            refine AllReady.cons rfl (fun K hK => ?_) ?_
            · go_simp
              refine hK _ _ ?_
              clear hK K
              refine wpAny_take (i := 2) (v := ?_) rfl (by kernel_rfl) (by kernel_rfl) (by kernel_rfl) (fun _ _ _ h => nomatch h.1) (Or.inl ⟨by rfl, ?_⟩) ?_
              rotate_left 1
              · (intro w; go_simp; try with_reducible rfl)
              refine wpAny_take (i := 3) (v := ?_) rfl (by kernel_rfl) (by kernel_rfl) (by kernel_rfl) (fun _ _ _ h => nomatch h.1) (Or.inl ⟨by rfl, ?_⟩) ?_
              rotate_left 1
              · (intro w; go_simp; try with_reducible rfl)
              refine wpAny_ready (rs := [4]) (by kernel_rfl) (by simp) ?_
              refine AllReady.cons rfl (fun K hK => ?_) ?_
              · go_simp
                refine hK _ _ ?_
                clear hK K
                refine wpAny_ready (rs := [6]) (by kernel_rfl) (by simp) ?_
                refine AllReady.cons rfl (fun K hK => ?_) ?_
                · refine step_append_lies (W.drew.alloc (.cells #[.int .u8 0] 5)) rfl (.tmp 22) (.tmp 23) 27 rfl (g + 1) 5 i0 (.int .u8 0) 1 1 Try.underlying27 hi hz0 hz1 hz2 rfl (by decide) v (L / 8) _ rfl (HR.out.alloc _) ⟨W.heap.size, 0, none⟩ 1 1 [.int .u8 0] rfl rfl (cell_one_new _ _ _) (by simp [Value.oneCell']) (by decide) (by simp only [maxLen]; omega) (by omega) (by simp; omega) _ rfl ?_
                  intro r c X hown' hgrow hat hlt'
                  obtain ⟨HL, hd0, hd1, hdx⟩ := HH r c X hown' hgrow hat
                  clear hown' hgrow hat
                  try go_simp
                  refine hK _ _ ?_
                  clear hK K
                  refine wpAny_take (i := 7) (v := ?_) rfl (by kernel_rfl) (by kernel_rfl) (by kernel_rfl) (fun _ _ _ h => nomatch h.1) (Or.inl ⟨by rfl, ?_⟩) ?_
                  rotate_left 1
                  · (intro w; go_simp; try with_reducible rfl)
                  refine wpAny_take (i := 8) (v := ?_) rfl (by kernel_rfl) (by kernel_rfl) (by kernel_rfl) (fun _ _ _ h => nomatch h.1) (Or.inl ⟨by rfl, ?_⟩) ?_
                  rotate_left 1
                  · (intro w; go_simp; try with_reducible rfl)
                  refine wpAny_ready (rs := [9]) (by kernel_rfl) (by simp) ?_
                  refine AllReady.cons rfl (fun K hK => ?_) ?_
                  · go_simp
                    refine hK _ _ ?_
                    clear hK K
                    refine wpAny_done (by kernel_rfl) ?_ _
                    exact ⟨rfl, _, _, _, _, _, _, _, _, _, _, _, _, rfl, HL.out⟩
                  exact AllReady.nil
                exact AllReady.nil
              exact AllReady.nil
            exact AllReady.nil
          exact AllReady.nil
        refine AllReady.cons rfl (fun K hK => ?_) ?_
        · go_simp
          refine hK _ _ ?_
          clear hK K
          refine wpAny_take (i := 2) (v := ?_) rfl (by kernel_rfl) (by kernel_rfl) (by kernel_rfl) (fun _ _ _ h => nomatch h.1) (Or.inl ⟨by rfl, ?_⟩) ?_
          rotate_left 1
          · (intro w; go_simp; try with_reducible rfl)
          refine wpAny_take (i := 3) (v := ?_) rfl (by kernel_rfl) (by kernel_rfl) (by kernel_rfl) (fun _ _ _ h => nomatch h.1) (Or.inl ⟨by rfl, ?_⟩) ?_
          rotate_left 1
          · (intro w; go_simp; try with_reducible rfl)
          refine wpAny_ready (rs := [0, 4, 5]) (by kernel_rfl) (by simp) ?_
          refine AllReady.cons rfl (fun K hK => ?_) ?_
          · go_simp
            refine hK _ _ ?_
            clear hK K
            refine wpAny_ready (rs := [4, 5]) (by kernel_rfl) (by simp) ?_
            refine AllReady.cons rfl (fun K hK => ?_) ?_
            · go_simp
              refine hK _ _ ?_
              clear hK K
              refine wpAny_ready (rs := [5]) (by kernel_rfl) (by simp) ?_
              refine AllReady.cons rfl (fun K hK => ?_) ?_
              · go_simp
                refine hK _ _ ?_
                clear hK K
                refine wpAny_ready (rs := [6]) (by kernel_rfl) (by simp) ?_
                refine AllReady.cons rfl (fun K hK => ?_) ?_
                · refine step_append_lies (W.drew.alloc (.cells #[.int .u8 0] 5)) rfl (.tmp 22) (.tmp 23) 27 rfl (g + 1) 5 i0 (.int .u8 0) 1 1 Try.underlying27 hi hz0 hz1 hz2 rfl (by decide) v (L / 8) _ rfl (HR.out.alloc _) ⟨W.heap.size, 0, none⟩ 1 1 [.int .u8 0] rfl rfl (cell_one_new _ _ _) (by simp [Value.oneCell']) (by decide) (by simp only [maxLen]; omega) (by omega) (by simp; omega) _ rfl ?_
                  intro r c X hown' hgrow hat hlt'
                  obtain ⟨HL, hd0, hd1, hdx⟩ := HH r c X hown' hgrow hat
                  clear hown' hgrow hat
                  try go_simp
                  refine hK _ _ ?_
                  clear hK K
                  refine wpAny_take (i := 7) (v := ?_) rfl (by kernel_rfl) (by kernel_rfl) (by kernel_rfl) (fun _ _ _ h => nomatch h.1) (Or.inl ⟨by rfl, ?_⟩) ?_
                  rotate_left 1
                  · (intro w; go_simp; try with_reducible rfl)
                  refine wpAny_take (i := 8) (v := ?_) rfl (by kernel_rfl) (by kernel_rfl) (by kernel_rfl) (fun _ _ _ h => nomatch h.1) (Or.inl ⟨by rfl, ?_⟩) ?_
                  rotate_left 1
                  · (intro w; go_simp; try with_reducible rfl)
                  refine wpAny_ready (rs := [9]) (by kernel_rfl) (by simp) ?_
                  refine AllReady.cons rfl (fun K hK => ?_) ?_
                  · go_simp
                    refine hK _ _ ?_
                    clear hK K
                    refine wpAny_done (by kernel_rfl) ?_ _
                    exact ⟨rfl, _, _, _, _, _, _, _, _, _, _, _, _, rfl, HL.out⟩
                  exact AllReady.nil
                exact AllReady.nil
              exact AllReady.nil
            refine AllReady.cons rfl (fun K hK => ?_) ?_
            · go_simp
              refine hK _ _ ?_
              clear hK K
              refine wpAny_ready (rs := [4]) (by kernel_rfl) (by simp) ?_
              refine AllReady.cons rfl (fun K hK => ?_) ?_
              · go_simp
                refine hK _ _ ?_
                clear hK K
                refine wpAny_ready (rs := [6]) (by kernel_rfl) (by simp) ?_
                refine AllReady.cons rfl (fun K hK => ?_) ?_
                · refine step_append_lies (W.drew.alloc (.cells #[.int .u8 0] 5)) rfl (.tmp 22) (.tmp 23) 27 rfl (g + 1) 5 i0 (.int .u8 0) 1 1 Try.underlying27 hi hz0 hz1 hz2 rfl (by decide) v (L / 8) _ rfl (HR.out.alloc _) ⟨W.heap.size, 0, none⟩ 1 1 [.int .u8 0] rfl rfl (cell_one_new _ _ _) (by simp [Value.oneCell']) (by decide) (by simp only [maxLen]; omega) (by omega) (by simp; omega) _ rfl ?_
                  intro r c X hown' hgrow hat hlt'
                  obtain ⟨HL, hd0, hd1, hdx⟩ := HH r c X hown' hgrow hat
                  clear hown' hgrow hat
                  try go_simp
                  refine hK _ _ ?_
                  clear hK K
                  refine wpAny_take (i := 7) (v := ?_) rfl (by kernel_rfl) (by kernel_rfl) (by kernel_rfl) (fun _ _ _ h => nomatch h.1) (Or.inl ⟨by rfl, ?_⟩) ?_
                  rotate_left 1
                  · (intro w; go_simp; try with_reducible rfl)
                  refine wpAny_take (i := 8) (v := ?_) rfl (by kernel_rfl) (by kernel_rfl) (by kernel_rfl) (fun _ _ _ h => nomatch h.1) (Or.inl ⟨by rfl, ?_⟩) ?_
                  rotate_left 1
                  · (intro w; go_simp; try with_reducible rfl)
                  refine wpAny_ready (rs := [9]) (by kernel_rfl) (by simp) ?_
                  refine AllReady.cons rfl (fun K hK => ?_) ?_
                  · go_simp
                    refine hK _ _ ?_
                    clear hK K
                    refine wpAny_done (by kernel_rfl) ?_ _
                    exact ⟨rfl, _, _, _, _, _, _, _, _, _, _, _, _, rfl, HL.out⟩
                  exact AllReady.nil
                exact AllReady.nil
              exact AllReady.nil
            exact AllReady.nil
          refine AllReady.cons rfl (fun K hK => ?_) ?_
          · go_simp
            refine hK _ _ ?_
            clear hK K
            refine wpAny_ready (rs := [0, 5]) (by kernel_rfl) (by simp) ?_
            refine AllReady.cons rfl (fun K hK => ?_) ?_
            · go_simp
              refine hK _ _ ?_
              clear hK K
              refine wpAny_ready (rs := [5]) (by kernel_rfl) (by simp) ?_
              refine AllReady.cons rfl (fun K hK => ?_) ?_
              · go_simp
                refine hK _ _ ?_
                clear hK K
                refine wpAny_ready (rs := [6]) (by kernel_rfl) (by simp) ?_
                refine AllReady.cons rfl (fun K hK => ?_) ?_
                · refine step_append_lies (W.drew.alloc (.cells #[.int .u8 0] 5)) rfl (.tmp 22) (.tmp 23) 27 rfl (g + 1) 5 i0 (.int .u8 0) 1 1 Try.underlying27 hi hz0 hz1 hz2 rfl (by decide) v (L / 8) _ rfl (HR.out.alloc _) ⟨W.heap.size, 0, none⟩ 1 1 [.int .u8 0] rfl rfl (cell_one_new _ _ _) (by simp [Value.oneCell']) (by decide) (by simp only [maxLen]; omega) (by omega) (by simp; omega) _ rfl ?_
                  intro r c X hown' hgrow hat hlt'
                  obtain ⟨HL, hd0, hd1, hdx⟩ := HH r c X hown' hgrow hat
                  clear hown' hgrow hat
                  try go_simp
                  refine hK _ _ ?_
                  clear hK K
                  refine wpAny_take (i := 7) (v := ?_) rfl (by kernel_rfl) (by kernel_rfl) (by kernel_rfl) (fun _ _ _ h => nomatch h.1) (Or.inl ⟨by rfl, ?_⟩) ?_
                  rotate_left 1
                  · (intro w; go_simp; try with_reducible rfl)
                  refine wpAny_take (i := 8) (v := ?_) rfl (by kernel_rfl) (by kernel_rfl) (by kernel_rfl) (fun _ _ _ h => nomatch h.1) (Or.inl ⟨by rfl, ?_⟩) ?_
                  rotate_left 1
                  · (intro w; go_simp; try with_reducible rfl)
                  refine wpAny_ready (rs := [9]) (by kernel_rfl) (by simp) ?_
                  refine AllReady.cons rfl (fun K hK => ?_) ?_
                  · go_simp
                    refine hK _ _ ?_
                    clear hK K
                    refine wpAny_done (by kernel_rfl) ?_ _
                    exact ⟨rfl, _, _, _, _, _, _, _, _, _, _, _, _, rfl, HL.out⟩
                  exact AllReady.nil
                exact AllReady.nil
              exact AllReady.nil
            refine AllReady.cons rfl (fun K hK => ?_) ?_
            · go_simp
              refine hK _ _ ?_
              clear hK K
              refine wpAny_ready (rs := [0, 6]) (by kernel_rfl) (by simp) ?_
              refine AllReady.cons rfl (fun K hK => ?_) ?_
              · go_simp
                refine hK _ _ ?_
                clear hK K
                refine wpAny_ready (rs := [6]) (by kernel_rfl) (by simp) ?_
                refine AllReady.cons rfl (fun K hK => ?_) ?_
                · refine step_append_lies (W.drew.alloc (.cells #[.int .u8 0] 5)) rfl (.tmp 22) (.tmp 23) 27 rfl (g + 1) 5 i0 (.int .u8 0) 1 1 Try.underlying27 hi hz0 hz1 hz2 rfl (by decide) v (L / 8) _ rfl (HR.out.alloc _) ⟨W.heap.size, 0, none⟩ 1 1 [.int .u8 0] rfl rfl (cell_one_new _ _ _) (by simp [Value.oneCell']) (by decide) (by simp only [maxLen]; omega) (by omega) (by simp; omega) _ rfl ?_
                  intro r c X hown' hgrow hat hlt'
                  obtain ⟨HL, hd0, hd1, hdx⟩ := HH r c X hown' hgrow hat
                  clear hown' hgrow hat
                  try go_simp
                  refine hK _ _ ?_
                  clear hK K
                  refine wpAny_take (i := 7) (v := ?_) rfl (by kernel_rfl) (by kernel_rfl) (by kernel_rfl) (fun _ _ _ h => nomatch h.1) (Or.inl ⟨by rfl, ?_⟩) ?_
                  rotate_left 1
                  · (intro w; go_simp; try with_reducible rfl)
                  refine wpAny_take (i := 8) (v := ?_) rfl (by kernel_rfl) (by kernel_rfl) (by kernel_rfl) (fun _ _ _ h => nomatch h.1) (Or.inl ⟨by rfl, ?_⟩) ?_
                  rotate_left 1
                  · (intro w; go_simp; try with_reducible rfl)
                  refine wpAny_ready (rs := [9]) (by kernel_rfl) (by simp) ?_
                  refine AllReady.cons rfl (fun K hK => ?_) ?_
                  · go_simp
                    refine hK _ _ ?_
                    clear hK K
                    refine wpAny_done (by kernel_rfl) ?_ _
                    exact ⟨rfl, _, _, _, _, _, _, _, _, _, _, _, _, rfl, HL.out⟩
                  exact AllReady.nil
                exact AllReady.nil
              refine AllReady.cons rfl (fun K hK => ?_) ?_
              · refine step_append_lies (W.drew.alloc (.cells #[.int .u8 0] 5)) rfl (.tmp 22) (.tmp 23) 27 rfl (g + 1) 5 i0 (.int .u8 0) 1 1 Try.underlying27 hi hz0 hz1 hz2 rfl (by decide) v (L / 8) _ rfl (HR.out.alloc _) ⟨W.heap.size, 0, none⟩ 1 1 [.int .u8 0] rfl rfl (cell_one_new _ _ _) (by simp [Value.oneCell']) (by decide) (by simp only [maxLen]; omega) (by omega) (by simp; omega) _ rfl ?_
                intro r c X hown' hgrow hat hlt'
                obtain ⟨HL, hd0, hd1, hdx⟩ := HH r c X hown' hgrow hat
                clear hown' hgrow hat
                try go_simp
                refine hK _ _ ?_
                clear hK K
                refine wpAny_ready (rs := [0]) (by kernel_rfl) (by simp) ?_
                refine AllReady.cons rfl (fun K hK => ?_) ?_
                · go_simp
                  refine hK _ _ ?_
                  clear hK K
                  refine wpAny_take (i := 7) (v := ?_) rfl (by kernel_rfl) (by kernel_rfl) (by kernel_rfl) (fun _ _ _ h => nomatch h.1) (Or.inl ⟨by rfl, ?_⟩) ?_
                  rotate_left 1
                  · (intro w; go_simp; try with_reducible rfl)
                  refine wpAny_take (i := 8) (v := ?_) rfl (by kernel_rfl) (by kernel_rfl) (by kernel_rfl) (fun _ _ _ h => nomatch h.1) (Or.inl ⟨by rfl, ?_⟩) ?_
                  rotate_left 1
                  · (intro w; go_simp; try with_reducible rfl)
                  refine wpAny_ready (rs := [9]) (by kernel_rfl) (by simp) ?_
                  refine AllReady.cons rfl (fun K hK => ?_) ?_
                  · go_simp
                    refine hK _ _ ?_
                    clear hK K
                    refine wpAny_done (by kernel_rfl) ?_ _
                    exact ⟨rfl, _, _, _, _, _, _, _, _, _, _, _, _, rfl, HL.out⟩
                  exact AllReady.nil
                exact AllReady.nil
              exact AllReady.nil
            exact AllReady.nil
          refine AllReady.cons rfl (fun K hK => ?_) ?_
          · go_simp
            refine hK _ _ ?_
            clear hK K
            refine wpAny_ready (rs := [0, 4]) (by kernel_rfl) (by simp) ?_
            refine AllReady.cons rfl (fun K hK => ?_) ?_
            · go_simp
              refine hK _ _ ?_
              clear hK K
              refine wpAny_ready (rs := [4]) (by kernel_rfl) (by simp) ?_
              refine AllReady.cons rfl (fun K hK => ?_) ?_
              · go_simp
                refine hK _ _ ?_
                clear hK K
                refine wpAny_ready (rs := [6]) (by kernel_rfl) (by simp) ?_
                refine AllReady.cons rfl (fun K hK => ?_) ?_
                · refine step_append_lies (W.drew.alloc (.cells #[.int .u8 0] 5)) rfl (.tmp 22) (.tmp 23) 27 rfl (g + 1) 5 i0 (.int .u8 0) 1 1 Try.underlying27 hi hz0 hz1 hz2 rfl (by decide) v (L / 8) _ rfl (HR.out.alloc _) ⟨W.heap.size, 0, none⟩ 1 1 [.int .u8 0] rfl rfl (cell_one_new _ _ _) (by simp [Value.oneCell']) (by decide) (by simp only [maxLen]; omega) (by omega) (by simp; omega) _ rfl ?_
                  intro r c X hown' hgrow hat hlt'
                  obtain ⟨HL, hd0, hd1, hdx⟩ := HH r c X hown' hgrow hat
                  clear hown' hgrow hat
                  try go_simp
                  refine hK _ _ ?_
                  clear hK K
                  refine wpAny_take (i := 7) (v := ?_) rfl (by kernel_rfl) (by kernel_rfl) (by kernel_rfl) (fun _ _ _ h => nomatch h.1) (Or.inl ⟨by rfl, ?_⟩) ?_
                  rotate_left 1
                  · (intro w; go_simp; try with_reducible rfl)
                  refine wpAny_take (i := 8) (v := ?_) rfl (by kernel_rfl) (by kernel_rfl) (by kernel_rfl) (fun _ _ _ h => nomatch h.1) (Or.inl ⟨by rfl, ?_⟩) ?_
                  rotate_left 1
                  · (intro w; go_simp; try with_reducible rfl)
                  refine wpAny_ready (rs := [9]) (by kernel_rfl) (by simp) ?_
                  refine AllReady.cons rfl (fun K hK => ?_) ?_
                  · go_simp
                    refine hK _ _ ?_
                    clear hK K
                    refine wpAny_done (by kernel_rfl) ?_ _
                    exact ⟨rfl, _, _, _, _, _, _, _, _, _, _, _, _, rfl, HL.out⟩
                  exact AllReady.nil
                exact AllReady.nil
              exact AllReady.nil
            refine AllReady.cons rfl (fun K hK => ?_) ?_
            · go_simp
              refine hK _ _ ?_
              clear hK K
              refine wpAny_ready (rs := [0, 6]) (by kernel_rfl) (by simp) ?_
              refine AllReady.cons rfl (fun K hK => ?_) ?_
              · go_simp
                refine hK _ _ ?_
                clear hK K
                refine wpAny_ready (rs := [6]) (by kernel_rfl) (by simp) ?_
                refine AllReady.cons rfl (fun K hK => ?_) ?_
                · refine step_append_lies (W.drew.alloc (.cells #[.int .u8 0] 5)) rfl (.tmp 22) (.tmp 23) 27 rfl (g + 1) 5 i0 (.int .u8 0) 1 1 Try.underlying27 hi hz0 hz1 hz2 rfl (by decide) v (L / 8) _ rfl (HR.out.alloc _) ⟨W.heap.size, 0, none⟩ 1 1 [.int .u8 0] rfl rfl (cell_one_new _ _ _) (by simp [Value.oneCell']) (by decide) (by simp only [maxLen]; omega) (by omega) (by simp; omega) _ rfl ?_
                  intro r c X hown' hgrow hat hlt'
                  obtain ⟨HL, hd0, hd1, hdx⟩ := HH r c X hown' hgrow hat
                  clear hown' hgrow hat
                  try go_simp
                  refine hK _ _ ?_
                  clear hK K
                  refine wpAny_take (i := 7) (v := ?_) rfl (by kernel_rfl) (by kernel_rfl) (by kernel_rfl) (fun _ _ _ h => nomatch h.1) (Or.inl ⟨by rfl, ?_⟩) ?_
                  rotate_left 1
                  · (intro w; go_simp; try with_reducible rfl)
                  refine wpAny_take (i := 8) (v := ?_) rfl (by kernel_rfl) (by kernel_rfl) (by kernel_rfl) (fun _ _ _ h => nomatch h.1) (Or.inl ⟨by rfl, ?_⟩) ?_
                  rotate_left 1
                  · (intro w; go_simp; try with_reducible rfl)
                  refine wpAny_ready (rs := [9]) (by kernel_rfl) (by simp) ?_
                  refine AllReady.cons rfl (fun K hK => ?_) ?_
                  · go_simp
                    refine hK _ _ ?_
                    clear hK K
                    refine wpAny_done (by kernel_rfl) ?_ _
                    exact ⟨rfl, _, _, _, _, _, _, _, _, _, _, _, _, rfl, HL.out⟩
                  exact AllReady.nil
                exact AllReady.nil
              refine AllReady.cons rfl (fun K hK => ?_) ?_
              · refine step_append_lies (W.drew.alloc (.cells #[.int .u8 0] 5)) rfl (.tmp 22) (.tmp 23) 27 rfl (g + 1) 5 i0 (.int .u8 0) 1 1 Try.underlying27 hi hz0 hz1 hz2 rfl (by decide) v (L / 8) _ rfl (HR.out.alloc _) ⟨W.heap.size, 0, none⟩ 1 1 [.int .u8 0] rfl rfl (cell_one_new _ _ _) (by simp [Value.oneCell']) (by decide) (by simp only [maxLen]; omega) (by omega) (by simp; omega) _ rfl ?_
                intro r c X hown' hgrow hat hlt'
                obtain ⟨HL, hd0, hd1, hdx⟩ := HH r c X hown' hgrow hat
                clear hown' hgrow hat
                try go_simp
                refine hK _ _ ?_
                clear hK K
                refine wpAny_ready (rs := [0]) (by kernel_rfl) (by simp) ?_
                refine AllReady.cons rfl (fun K hK => ?_) ?_
                · go_simp
                  refine hK _ _ ?_
                  clear hK K
                  refine wpAny_take (i := 7) (v := ?_) rfl (by kernel_rfl) (by kernel_rfl) (by kernel_rfl) (fun _ _ _ h => nomatch h.1) (Or.inl ⟨by rfl, ?_⟩) ?_
                  rotate_left 1
                  · (intro w; go_simp; try with_reducible rfl)
                  refine wpAny_take (i := 8) (v := ?_) rfl (by kernel_rfl) (by kernel_rfl) (by kernel_rfl) (fun _ _ _ h => nomatch h.1) (Or.inl ⟨by rfl, ?_⟩) ?_
                  rotate_left 1
                  · (intro w; go_simp; try with_reducible rfl)
                  refine wpAny_ready (rs := [9]) (by kernel_rfl) (by simp) ?_
                  refine AllReady.cons rfl (fun K hK => ?_) ?_
                  · go_simp
                    refine hK _ _ ?_
                    clear hK K
                    refine wpAny_done (by kernel_rfl) ?_ _
                    exact ⟨rfl, _, _, _, _, _, _, _, _, _, _, _, _, rfl, HL.out⟩
                  exact AllReady.nil
                exact AllReady.nil
              exact AllReady.nil
            exact AllReady.nil
          exact AllReady.nil
        refine AllReady.cons rfl (fun K hK => ?_) ?_
        · go_simp
          refine hK _ _ ?_
          clear hK K
          refine wpAny_ready (rs := [0, 1]) (by kernel_rfl) (by simp) ?_
          refine AllReady.cons rfl (fun K hK => ?_) ?_
          · go_simp
            refine hK _ _ ?_
            clear hK K
            refine wpAny_ready (rs := [1]) (by kernel_rfl) (by simp) ?_
            refine AllReady.cons rfl (fun K hK => ?_) ?_
            · go_simp
              refine hK _ _ ?_
              clear hK K
              refine wpAny_take (i := 2) (v := ?_) rfl (by kernel_rfl) (by kernel_rfl) (by kernel_rfl) (fun _ _ _ h => nomatch h.1) (Or.inl ⟨by rfl, ?_⟩) ?_
              rotate_left 1
              · (intro w; go_simp; try with_reducible rfl)
              refine wpAny_take (i := 3) (v := ?_) rfl (by kernel_rfl) (by kernel_rfl) (by kernel_rfl) (fun _ _ _ h => nomatch h.1) (Or.inl ⟨by rfl, ?_⟩) ?_
              rotate_left 1
              · (intro w; go_simp; try with_reducible rfl)
              refine wpAny_ready (rs := [4]) (by kernel_rfl) (by simp) ?_
              refine AllReady.cons rfl (fun K hK => ?_) ?_
              · go_simp
                refine hK _ _ ?_
                clear hK K
                refine wpAny_ready (rs := [6]) (by kernel_rfl) (by simp) ?_
                refine AllReady.cons rfl (fun K hK => ?_) ?_
                · refine step_append_lies (W.drew.alloc (.cells #[.int .u8 0] 5)) rfl (.tmp 22) (.tmp 23) 27 rfl (g + 1) 5 i0 (.int .u8 0) 1 1 Try.underlying27 hi hz0 hz1 hz2 rfl (by decide) v (L / 8) _ rfl (HR.out.alloc _) ⟨W.heap.size, 0, none⟩ 1 1 [.int .u8 0] rfl rfl (cell_one_new _ _ _) (by simp [Value.oneCell']) (by decide) (by simp only [maxLen]; omega) (by omega) (by simp; omega) _ rfl ?_
                  intro r c X hown' hgrow hat hlt'
                  obtain ⟨HL, hd0, hd1, hdx⟩ := HH r c X hown' hgrow hat
                  clear hown' hgrow hat
                  try go_simp
                  refine hK _ _ ?_
                  clear hK K
                  refine wpAny_take (i := 7) (v := ?_) rfl (by kernel_rfl) (by kernel_rfl) (by kernel_rfl) (fun _ _ _ h => nomatch h.1) (Or.inl ⟨by rfl, ?_⟩) ?_
                  rotate_left 1
                  · (intro w; go_simp; try with_reducible rfl)
                  refine wpAny_take (i := 8) (v := ?_) rfl (by kernel_rfl) (by kernel_rfl) (by kernel_rfl) (fun _ _ _ h => nomatch h.1) (Or.inl ⟨by rfl, ?_⟩) ?_
                  rotate_left 1
                  · (intro w; go_simp; try with_reducible rfl)
                  refine wpAny_ready (rs := [9]) (by kernel_rfl) (by simp) ?_
                  refine AllReady.cons rfl (fun K hK => ?_) ?_
                  · go_simp
                    refine hK _ _ ?_
                    clear hK K
                    refine wpAny_done (by kernel_rfl) ?_ _
                    exact ⟨rfl, _, _, _, _, _, _, _, _, _, _, _, _, rfl, HL.out⟩
                  exact AllReady.nil
                exact AllReady.nil
              exact AllReady.nil
            exact AllReady.nil
          refine AllReady.cons rfl (fun K hK => ?_) ?_
          · go_simp
            refine hK _ _ ?_
            clear hK K
            refine wpAny_take (i := 2) (v := ?_) rfl (by kernel_rfl) (by kernel_rfl) (by kernel_rfl) (fun _ _ _ h => nomatch h.1) (Or.inl ⟨by rfl, ?_⟩) ?_
            rotate_left 1
            · (intro w; go_simp; try with_reducible rfl)
            refine wpAny_take (i := 3) (v := ?_) rfl (by kernel_rfl) (by kernel_rfl) (by kernel_rfl) (fun _ _ _ h => nomatch h.1) (Or.inl ⟨by rfl, ?_⟩) ?_
            rotate_left 1
            · (intro w; go_simp; try with_reducible rfl)
            refine wpAny_ready (rs := [0, 4]) (by kernel_rfl) (by simp) ?_
            refine AllReady.cons rfl (fun K hK => ?_) ?_
            · go_simp
              refine hK _ _ ?_
              clear hK K
              refine wpAny_ready (rs := [4]) (by kernel_rfl) (by simp) ?_
              refine AllReady.cons rfl (fun K hK => ?_) ?_
              · go_simp
                refine hK _ _ ?_
                clear hK K
                refine wpAny_ready (rs := [6]) (by kernel_rfl) (by simp) ?_
                refine AllReady.cons rfl (fun K hK => ?_) ?_
                · refine step_append_lies (W.drew.alloc (.cells #[.int .u8 0] 5)) rfl (.tmp 22) (.tmp 23) 27 rfl (g + 1) 5 i0 (.int .u8 0) 1 1 Try.underlying27 hi hz0 hz1 hz2 rfl (by decide) v (L / 8) _ rfl (HR.out.alloc _) ⟨W.heap.size, 0, none⟩ 1 1 [.int .u8 0] rfl rfl (cell_one_new _ _ _) (by simp [Value.oneCell']) (by decide) (by simp only [maxLen]; omega) (by omega) (by simp; omega) _ rfl ?_
                  intro r c X hown' hgrow hat hlt'
                  obtain ⟨HL, hd0, hd1, hdx⟩ := HH r c X hown' hgrow hat
                  clear hown' hgrow hat
                  try go_simp
                  refine hK _ _ ?_
                  clear hK K
                  refine wpAny_take (i := 7) (v := ?_) rfl (by kernel_rfl) (by kernel_rfl) (by kernel_rfl) (fun _ _ _ h => nomatch h.1) (Or.inl ⟨by rfl, ?_⟩) ?_
                  rotate_left 1
                  · (intro w; go_simp; try with_reducible rfl)
                  refine wpAny_take (i := 8) (v := ?_) rfl (by kernel_rfl) (by kernel_rfl) (by kernel_rfl) (fun _ _ _ h => nomatch h.1) (Or.inl ⟨by rfl, ?_⟩) ?_
                  rotate_left 1
                  · (intro w; go_simp; try with_reducible rfl)
                  refine wpAny_ready (rs := [9]) (by kernel_rfl) (by simp) ?_
                  refine AllReady.cons rfl (fun K hK => ?_) ?_
                  · go_simp
                    refine hK _ _ ?_
                    clear hK K
                    refine wpAny_done (by kernel_rfl) ?_ _
                    exact ⟨rfl, _, _, _, _, _, _, _, _, _, _, _, _, rfl, HL.out⟩
                  exact AllReady.nil
                exact AllReady.nil
              exact AllReady.nil
            refine AllReady.cons rfl (fun K hK => ?_) ?_
            · go_simp
              refine hK _ _ ?_
              clear hK K
              refine wpAny_ready (rs := [0, 6]) (by kernel_rfl) (by simp) ?_
              refine AllReady.cons rfl (fun K hK => ?_) ?_
              · go_simp
                refine hK _ _ ?_
                clear hK K
                refine wpAny_ready (rs := [6]) (by kernel_rfl) (by simp) ?_
                refine AllReady.cons rfl (fun K hK => ?_) ?_
                · refine step_append_lies (W.drew.alloc (.cells #[.int .u8 0] 5)) rfl (.tmp 22) (.tmp 23) 27 rfl (g + 1) 5 i0 (.int .u8 0) 1 1 Try.underlying27 hi hz0 hz1 hz2 rfl (by decide) v (L / 8) _ rfl (HR.out.alloc _) ⟨W.heap.size, 0, none⟩ 1 1 [.int .u8 0] rfl rfl (cell_one_new _ _ _) (by simp [Value.oneCell']) (by decide) (by simp only [maxLen]; omega) (by omega) (by simp; omega) _ rfl ?_
                  intro r c X hown' hgrow hat hlt'
                  obtain ⟨HL, hd0, hd1, hdx⟩ := HH r c X hown' hgrow hat
                  clear hown' hgrow hat
                  try go_simp
                  refine hK _ _ ?_
                  clear hK K
                  refine wpAny_take (i := 7) (v := ?_) rfl (by kernel_rfl) (by kernel_rfl) (by kernel_rfl) (fun _ _ _ h => nomatch h.1) (Or.inl ⟨by rfl, ?_⟩) ?_
                  rotate_left 1
                  · (intro w; go_simp; try with_reducible rfl)
                  refine wpAny_take (i := 8) (v := ?_) rfl (by kernel_rfl) (by kernel_rfl) (by kernel_rfl) (fun _ _ _ h => nomatch h.1) (Or.inl ⟨by rfl, ?_⟩) ?_
                  rotate_left 1
                  · (intro w; go_simp; try with_reducible rfl)
                  refine wpAny_ready (rs := [9]) (by kernel_rfl) (by simp) ?_
                  refine AllReady.cons rfl (fun K hK => ?_) ?_
                  · go_simp
                    refine hK _ _ ?_
                    clear hK K
                    refine wpAny_done (by kernel_rfl) ?_ _
                    exact ⟨rfl, _, _, _, _, _, _, _, _, _, _, _, _, rfl, HL.out⟩
                  exact AllReady.nil
                exact AllReady.nil
              refine AllReady.cons rfl (fun K hK => ?_) ?_
              · refine step_append_lies (W.drew.alloc (.cells #[.int .u8 0] 5)) rfl (.tmp 22) (.tmp 23) 27 rfl (g + 1) 5 i0 (.int .u8 0) 1 1 Try.underlying27 hi hz0 hz1 hz2 rfl (by decide) v (L / 8) _ rfl (HR.out.alloc _) ⟨W.heap.size, 0, none⟩ 1 1 [.int .u8 0] rfl rfl (cell_one_new _ _ _) (by simp [Value.oneCell']) (by decide) (by simp only [maxLen]; omega) (by omega) (by simp; omega) _ rfl ?_
                intro r c X hown' hgrow hat hlt'
                obtain ⟨HL, hd0, hd1, hdx⟩ := HH r c X hown' hgrow hat
                clear hown' hgrow hat
                try go_simp
                refine hK _ _ ?_
                clear hK K
                refine wpAny_ready (rs := [0]) (by kernel_rfl) (by simp) ?_
                refine AllReady.cons rfl (fun K hK => ?_) ?_
                · go_simp
                  refine hK _ _ ?_
                  clear hK K
                  refine wpAny_take (i := 7) (v := ?_) rfl (by kernel_rfl) (by kernel_rfl) (by kernel_rfl) (fun _ _ _ h => nomatch h.1) (Or.inl ⟨by rfl, ?_⟩) ?_
                  rotate_left 1
                  · (intro w; go_simp; try with_reducible rfl)
                  refine wpAny_take (i := 8) (v := ?_) rfl (by kernel_rfl) (by kernel_rfl) (by kernel_rfl) (fun _ _ _ h => nomatch h.1) (Or.inl ⟨by rfl, ?_⟩) ?_
                  rotate_left 1
                  · (intro w; go_simp; try with_reducible rfl)
                  refine wpAny_ready (rs := [9]) (by kernel_rfl) (by simp) ?_
                  refine AllReady.cons rfl (fun K hK => ?_) ?_
                  · go_simp
                    refine hK _ _ ?_
                    clear hK K
                    refine wpAny_done (by kernel_rfl) ?_ _
                    exact ⟨rfl, _, _, _, _, _, _, _, _, _, _, _, _, rfl, HL.out⟩
                  exact AllReady.nil
                exact AllReady.nil
              exact AllReady.nil
            exact AllReady.nil
          exact AllReady.nil
        exact AllReady.nil
      case post =>
        rintro a' X ⟨B, t18, t19, t20, t21, t22, t23, t24, t25, t26, r, c, rfl, hb, hrow, hbx, hat, hf⟩
        have c0 := hb.cell 0
        have c1 := hb.cell 1
        have cx := hbx.cell 0
        simp only [List.getElem?_toArray, List.getElem?_cons_zero, List.getElem?_cons_succ] at c0 c1 cx
        have fr := hb.free 1
        have cr : X.cell? ⟨r, L / 8, none⟩ = some (.int .u8 (by8 (bs ++ pre) (L / 8) : Nat)) := by
          rw [hrow.cellAt (L / 8) (by omega)]
          simp [pk, bv]
        have ff := hrow.frozenAt (L / 8)
        have hLl : L ≤ 1000064 := by
          have := inn_le x
          rw [List.length_append] at hL
          omega
        have e1 : IntKind.i64.wrap ((L : Int) / 8) = ((L / 8 : Nat) : Int) := by rw [IntWalk.i64_in _ (by omega)]; simp
        have e3 : IntKind.i64.wrap (7 - (L : Int) % 8) = ((7 - L % 8 : Nat) : Int) := by rw [IntWalk.i64_in _ (by omega)]; omega
        have e4 : IntKind.i64.wrap (7 - (L : Int).tmod 8) = ((7 - L % 8 : Nat) : Int) := by rw [Int.tmod_eq_emod_of_nonneg (by omega)]; exact e3
        obtain ⟨q, hqL⟩ : ∃ q, L / 8 = q := ⟨_, rfl⟩
        obtain ⟨k, hkL⟩ : ∃ k, 7 - L % 8 = k := ⟨_, rfl⟩
        obtain ⟨cy, hcy⟩ : ∃ cy : Nat, (if y then 1 else 0) = cy := ⟨_, rfl⟩
        have hby : bt y = .int .u8 cy := by unfold bt; rw [← hcy]; split <;> rfl
        rw [hqL] at cr ff hrow e1 c0 hb
        rw [hkL] at e3 e4
        have hk7 : k ≤ 7 := by omega
        have hcy1 : cy ≤ 1 := by rw [← hcy]; split <;> omega
        have hlt8 : cy * 2 ^ k < 256 := by
          have : 2 ^ k ≤ 2 ^ 7 := Nat.pow_le_pow_right (by decide) hk7
          have : cy * 2 ^ k ≤ 1 * 2 ^ k := Nat.mul_le_mul_right _ hcy1
          omega
        obtain ⟨sh, hsh⟩ : ∃ sh, cy * 2 ^ k = sh := ⟨_, rfl⟩
        obtain ⟨nb, hnb⟩ : ∃ nb, by8 (bs ++ (pre ++ [y])) q = nb := ⟨_, rfl⟩
        rw [hsh] at hlt8
        have e5b : IntKind.u8.wrap ((cy : Int) * 2 ^ k) = (sh : Int) := by
          rw [IntKind.wrap_u8]
          have : ((cy : Int) * 2 ^ k) = ((cy * 2 ^ k : Nat) : Int) := by simp
          rw [this, hsh]; omega
        have e5 : IntKind.u8.wrap ((cy : Int) * 2 ^ min k 8) = (sh : Int) := by
          rw [Nat.min_eq_left (by omega)]; exact e5b
        have e6 : bits .or .u8 ((by8 (bs ++ pre) q : Nat) : Int) (sh : Int) = (nb : Int) := by
          rw [or_u8_nat _ _ (by8_lt _ _) hlt8, ← hnb, ← List.append_assoc, ← hqL, ← hL, ← hsh]
          rw [or_here (bs ++ pre) k (by rw [hL]; exact hkL) y cy hcy]
        have HSH := Lib.hid hsh
        have HNB := Lib.hid hnb
        clear hsh hnb hlt8
        have hi1 : (q : Int) < (q : Int) + 1 := by omega
        have HQ := Lib.hid hqL
        have HK := Lib.hid hkL
        have HC := Lib.hid hcy
        clear hqL hkL hcy
        have HB := Lib.hid hb
        have HR := Lib.hid hrow
        have HX := Lib.hid hbx
        have HF := Lib.hid hf
        have HA := Lib.hid hat
        have HO := Lib.hid hown
        have HX0 := Lib.hid hbox
        have HW : Hid (∀ k, v0.ownBlock = some k → k < w.heap.size) := Lib.hid (fun k e => by
          rcases hw.row.2 with ⟨hv, _⟩ | ⟨g', cap, cur, hv, hb, hh, _⟩
          · subst hv; cases e
          · subst hv; injection e with e
            have := (Array.getElem?_eq_some_iff.1 hh).1
            simp at e; omega)
        clear hbox hb hrow hbx hf hat hown hw bX bX2 b2 b3 s0 f1 f2 f3 hw2 hw1
        gi_wp2
        refine wpIn_round_tail 21 (by kernel_rfl) (by kernel_rfl) (by kernel_rfl) ?_
        simp only [List.take_succ_cons, List.take_zero, List.drop_succ_cons, List.drop_zero]
        repeat still_step
        refine wpStill_nil ?_
        obtain ⟨Y, hY⟩ : ∃ Y, (X.setCell ⟨r, q, none⟩ (.int .u8 (nb : Int))).drew = Y := ⟨_, rfl⟩
        go_wp2
        refine plainQ.mk ?_
        simp only [Exit.then]
        have hrg : g + 1 ≤ r := by
          rcases HR.out.2 with ⟨hv, _⟩ | ⟨g', cap, cur, hv, hb, _⟩
          · cases hv
          · injection hv with hv; injection hv with hv; injection hv with hv; subst hv; exact hb
        have hst : Y.ownsRow (g + 1) 5 1 (.slice (some ⟨r, 0, none⟩) (q + 1) c) (q + 1) (((pk (bs ++ pre) (q + 1)).map bv).set q (.int .u8 (nb : Int))) ∧ X.grownBy Y (some r) := by
          rw [← hY]
          have h := World.ownsRow.stored (w := X) HR.out q (.int .u8 (nb : Int))
          exact ⟨h.1, ⟨h.2.os, h.2.tape, h.2.output, h.2.size, h.2.block⟩⟩
        have hbY : Blk Y g 33 #[.slice (some ⟨r, 0, none⟩) (q + 1) c, .int .i64 L] := hst.2.block g HB.out.lt (by simp; omega) |>.trans HB.out
        have hxr : w.heap.size ≠ r := by
          intro e
          rcases HA.out with h | h
          · rcases HO.out with h2 | h2
            · have := HW.out; rw [h2] at h; have := this r h; omega
            · have := h2 _ h; omega
          · have := HX0.out.lt; omega
        have hxY : Blk Y w.heap.size 24 #[.pointer (some ⟨g, 0, none⟩)] := hst.2.block w.heap.size HX.out.lt (by simp; exact hxr) |>.trans HX.out
        have d1 := hbY.cell 1
        have dx := hxY.cell 0
        simp only [List.getElem?_toArray, List.getElem?_cons_zero, List.getElem?_cons_succ] at d1 dx
        have df := hbY.free 1
        have e7 : IntKind.i64.wrap ((L : Int) + 1) = ((L + 1 : Nat) : Int) := IntWalk.i64_in _ (by omega)
        have HY1 := Lib.hid hst
        have HY2 := Lib.hid hbY
        have HY3 := Lib.hid hxY
        clear hst hbY hxY
        gi_wp2
        have hZ : Frm W (Y.setCell ⟨g, 1, none⟩ (.int .i64 ((L : Int) + 1))) g v.ownBlock := (HF.out.grown HY1.out.2 (by
          rcases HA.out with h | h
          · exact .inl h.symm
          · exact .inr (.inr fun j e => by cases e; exact h))).grown (World.grownBy_setCell' Y g 1 _) (.inr (.inl rfl))
        have hlo : ∀ j, w.heap.size ≤ j → j < w2.heap.size → some j ≠ v.ownBlock := fun j h1 h2 e => by
          rcases HO.out with h | h
          · rw [h] at e; have := HW.out j e.symm; omega
          · have := h j e.symm; omega
        refine ⟨hZ.keepsFrom HROW.out (by omega), hZ.kp ⟨by omega, hlo _ (by omega) (by omega)⟩ ⟨by omega, hlo _ (by omega) (by omega)⟩, .slice (some ⟨r, 0, none⟩) (q + 1) c, ⟨⟨?_, ?_⟩, HY3.out.other 1 _ (by omega), ?_, HFRM.out.trans hZ ?_, Nat.le_trans hbig hZ.size⟩⟩
        · exact (HY2.out.put 1 _).of_ (by rw [← List.append_assoc, List.length_append, hL]; simp)
        · have hlen : (bs ++ (pre ++ [y])).length = L + 1 := by rw [← List.append_assoc, List.length_append, hL]; rfl
          have hq1 : (L + 1 + 7) / 8 = q + 1 := by have := HQ.out; omega
          rw [hlen, hq1]
          have h1 := ownsRow_setCell_below HY1.out.1 (a := ⟨g, 1, none⟩) (by simp) (.int .i64 ((L : Int) + 1))
          rw [← HNB.out, ← List.append_assoc, pk_set (bs ++ pre) y q (by rw [hL]; exact HQ.out), List.append_assoc] at h1
          exact h1
        · rcases HA.out with h | h
          · rcases HO.out with h2 | h2
            · exact .inl (h2 ▸ h ▸ rfl)
            · exact .inr (fun j e => h2 j (h.trans e))
          · exact .inr (fun j e => by injection e with e; have e2 : r = j := e; omega)
        · rcases HO.out with h | h
          · exact .inl h
          · exact .inr (fun j e => by have := h j e; omega)
    · have h8 : L % 8 ≠ 0 := by
        have h : ((L : Int) % 8 == 0) = false := by assumption
        simp at h; omega
      have hq : (L + 7) / 8 = L / 8 + 1 := by omega
      rw [hL, hq] at hrow
      obtain ⟨r, c, rfl, hgr, _⟩ := hrow.form (by omega)
      have hb := hblk
      have hbx := hbox
      have HGR := Lib.hid hgr
      clear hgr
      obtain ⟨ro, hro⟩ : ∃ ro : Option Nat, ro = some r := ⟨_, rfl⟩
      have hat : ro = some r ∨ W.heap.size ≤ r := .inl hro
      replace hown : ro = v0.ownBlock ∨ ∀ k, ro = some k → w2.heap.size ≤ k := by rw [hro]; exact hown
      have HRO := Lib.hid hro
      clear hro
      have hf := Frm.refl W g ro
      clear hc0 hc1 hx0
      have c0 := hb.cell 0
      have c1 := hb.cell 1
      have cx := hbx.cell 0
      simp only [List.getElem?_toArray, List.getElem?_cons_zero, List.getElem?_cons_succ] at c0 c1 cx
      have fr := hb.free 1
      have cr : W.cell? ⟨r, L / 8, none⟩ = some (.int .u8 (by8 (bs ++ pre) (L / 8) : Nat)) := by
        rw [hrow.cellAt (L / 8) (by omega)]
        simp [pk, bv]
      have ff := hrow.frozenAt (L / 8)
      have hLl : L ≤ 1000064 := by
        have := inn_le x
        rw [List.length_append] at hL
        omega
      have e1 : IntKind.i64.wrap ((L : Int) / 8) = ((L / 8 : Nat) : Int) := by rw [IntWalk.i64_in _ (by omega)]; simp
      have e3 : IntKind.i64.wrap (7 - (L : Int) % 8) = ((7 - L % 8 : Nat) : Int) := by rw [IntWalk.i64_in _ (by omega)]; omega
      have e4 : IntKind.i64.wrap (7 - (L : Int).tmod 8) = ((7 - L % 8 : Nat) : Int) := by rw [Int.tmod_eq_emod_of_nonneg (by omega)]; exact e3
      obtain ⟨q, hqL⟩ : ∃ q, L / 8 = q := ⟨_, rfl⟩
      obtain ⟨k, hkL⟩ : ∃ k, 7 - L % 8 = k := ⟨_, rfl⟩
      obtain ⟨cy, hcy⟩ : ∃ cy : Nat, (if y then 1 else 0) = cy := ⟨_, rfl⟩
      have hby : bt y = .int .u8 cy := by unfold bt; rw [← hcy]; split <;> rfl
      rw [hqL] at cr ff hrow e1 c0 hb
      rw [hkL] at e3 e4
      have hk7 : k ≤ 7 := by omega
      have hcy1 : cy ≤ 1 := by rw [← hcy]; split <;> omega
      have hlt8 : cy * 2 ^ k < 256 := by
        have : 2 ^ k ≤ 2 ^ 7 := Nat.pow_le_pow_right (by decide) hk7
        have : cy * 2 ^ k ≤ 1 * 2 ^ k := Nat.mul_le_mul_right _ hcy1
        omega
      obtain ⟨sh, hsh⟩ : ∃ sh, cy * 2 ^ k = sh := ⟨_, rfl⟩
      obtain ⟨nb, hnb⟩ : ∃ nb, by8 (bs ++ (pre ++ [y])) q = nb := ⟨_, rfl⟩
      rw [hsh] at hlt8
      have e5b : IntKind.u8.wrap ((cy : Int) * 2 ^ k) = (sh : Int) := by
        rw [IntKind.wrap_u8]
        have : ((cy : Int) * 2 ^ k) = ((cy * 2 ^ k : Nat) : Int) := by simp
        rw [this, hsh]; omega
      have e5 : IntKind.u8.wrap ((cy : Int) * 2 ^ min k 8) = (sh : Int) := by
        rw [Nat.min_eq_left (by omega)]; exact e5b
      have e6 : bits .or .u8 ((by8 (bs ++ pre) q : Nat) : Int) (sh : Int) = (nb : Int) := by
        rw [or_u8_nat _ _ (by8_lt _ _) hlt8, ← hnb, ← List.append_assoc, ← hqL, ← hL, ← hsh]
        rw [or_here (bs ++ pre) k (by rw [hL]; exact hkL) y cy hcy]
      have HSH := Lib.hid hsh
      have HNB := Lib.hid hnb
      clear hsh hnb hlt8
      have hi1 : (q : Int) < (q : Int) + 1 := by omega
      have HQ := Lib.hid hqL
      have HK := Lib.hid hkL
      have HC := Lib.hid hcy
      clear hqL hkL hcy
      have HB := Lib.hid hb
      have HR := Lib.hid hrow
      have HX := Lib.hid hbx
      have HF := Lib.hid hf
      have HA := Lib.hid hat
      have HO := Lib.hid hown
      have HX0 := Lib.hid hbox
      have HW : Hid (∀ k, v0.ownBlock = some k → k < w.heap.size) := Lib.hid (fun k e => by
        rcases hw.row.2 with ⟨hv, _⟩ | ⟨g', cap, cur, hv, hb, hh, _⟩
        · subst hv; cases e
        · subst hv; injection e with e
          have := (Array.getElem?_eq_some_iff.1 hh).1
          simp at e; omega)
      clear hbox hb hrow hbx hf hat hown hw bX bX2 b2 b3 s0 f1 f2 f3 hw2 hw1
      gi_wp2
      refine wpIn_round_tail 21 (by kernel_rfl) (by kernel_rfl) (by kernel_rfl) ?_
      simp only [List.take_succ_cons, List.take_zero, List.drop_succ_cons, List.drop_zero]
      repeat still_step
      refine wpStill_nil ?_
      obtain ⟨Y, hY⟩ : ∃ Y, (W.setCell ⟨r, q, none⟩ (.int .u8 (nb : Int))).drew = Y := ⟨_, rfl⟩
      go_wp2
      refine plainQ.mk ?_
      simp only [Exit.then]
      have hrg : g + 1 ≤ r := HGR.out
      have hst : Y.ownsRow (g + 1) 5 1 (.slice (some ⟨r, 0, none⟩) (q + 1) c) (q + 1) (((pk (bs ++ pre) (q + 1)).map bv).set q (.int .u8 (nb : Int))) ∧ W.grownBy Y (some r) := by
        rw [← hY]
        have h := World.ownsRow.stored (w := W) HR.out q (.int .u8 (nb : Int))
        exact ⟨h.1, ⟨h.2.os, h.2.tape, h.2.output, h.2.size, h.2.block⟩⟩
      have hbY : Blk Y g 33 #[.slice (some ⟨r, 0, none⟩) (q + 1) c, .int .i64 L] := hst.2.block g HB.out.lt (by simp; omega) |>.trans HB.out
      have hxr : w.heap.size ≠ r := by
        intro e
        rcases HA.out with h | h
        · rcases HO.out with h2 | h2
          · have := HW.out; rw [h2] at h; have := this r h; omega
          · have := h2 _ h; omega
        · have := HX0.out.lt; omega
      have hxY : Blk Y w.heap.size 24 #[.pointer (some ⟨g, 0, none⟩)] := hst.2.block w.heap.size HX.out.lt (by simp; exact hxr) |>.trans HX.out
      have d1 := hbY.cell 1
      have dx := hxY.cell 0
      simp only [List.getElem?_toArray, List.getElem?_cons_zero, List.getElem?_cons_succ] at d1 dx
      have df := hbY.free 1
      have e7 : IntKind.i64.wrap ((L : Int) + 1) = ((L + 1 : Nat) : Int) := IntWalk.i64_in _ (by omega)
      have HY1 := Lib.hid hst
      have HY2 := Lib.hid hbY
      have HY3 := Lib.hid hxY
      clear hst hbY hxY
      gi_wp2
      have hZ : Frm W (Y.setCell ⟨g, 1, none⟩ (.int .i64 ((L : Int) + 1))) g ro := (HF.out.grown HY1.out.2 (by
        rcases HA.out with h | h
        · exact .inl h.symm
        · exact .inr (.inr fun j e => by cases e; exact h))).grown (World.grownBy_setCell' Y g 1 _) (.inr (.inl rfl))
      have hlo : ∀ j, w.heap.size ≤ j → j < w2.heap.size → some j ≠ ro := fun j h1 h2 e => by
        rcases HO.out with h | h
        · rw [h] at e; have := HW.out j e.symm; omega
        · have := h j e.symm; omega
      refine ⟨Frm.keepsFrom (v := .slice (some ⟨r, 0, none⟩) (L / 8 + 1) c) (HRO.out ▸ hZ) HROW.out (by omega), hZ.kp ⟨by omega, hlo _ (by omega) (by omega)⟩ ⟨by omega, hlo _ (by omega) (by omega)⟩, .slice (some ⟨r, 0, none⟩) (q + 1) c, ⟨⟨?_, ?_⟩, HY3.out.other 1 _ (by omega), ?_, HFRM.out.trans hZ ?_, Nat.le_trans hbig hZ.size⟩⟩
      · exact (HY2.out.put 1 _).of_ (by rw [← List.append_assoc, List.length_append, hL]; simp)
      · have hlen : (bs ++ (pre ++ [y])).length = L + 1 := by rw [← List.append_assoc, List.length_append, hL]; rfl
        have hq1 : (L + 1 + 7) / 8 = q + 1 := by have := HQ.out; omega
        rw [hlen, hq1]
        have h1 := ownsRow_setCell_below HY1.out.1 (a := ⟨g, 1, none⟩) (by simp) (.int .i64 ((L : Int) + 1))
        rw [← HNB.out, ← List.append_assoc, pk_set (bs ++ pre) y q (by rw [hL]; exact HQ.out), List.append_assoc] at h1
        exact h1
      · rcases HA.out with h | h
        · rcases HO.out with h2 | h2
          · exact .inl (h2 ▸ h ▸ rfl)
          · exact .inr (fun j e => h2 j (h.trans e))
        · exact .inr (fun j e => by injection e with e; have e2 : r = j := e; omega)
      · rcases HO.out with h | h
        · exact .inl h
        · exact .inr (fun j e => by have := h j e; omega)
  case done =>
    rintro D ys W hD rfl ⟨v, hS⟩ hK
    gi_wp2
    refine ⟨by simp, .inl ⟨_, _, rfl, run_takeDeferred hK, ?_⟩⟩
    have hE := hS.kept (grownBy_putObj' W D (.deferred none)) (by omega) (fun r e => by cases e; exact ⟨hD, _, hK, rfl⟩)
    exact ⟨_, results_none rfl _ _ _, rfl, v, hE.wr, hE.row.imp id (fun h k e => by have := h k e; omega), hE.frm⟩
  case stop =>
    rintro D c pre W _ _ h _
    exact h.elim
end Go.Proofs.Ytldgldibkibknaa
