
import Derived.Test.YtbilegkffooioaaGreatDoorM02
import Derived.StillTactics
import Derived.Laws.OwnMore
import Derived.Laws.Bits64b
import Derived.Deep.RegionWith
import Derived.Test.YtbilegkffooioaaGreatDoorM01
import Derived.Deep.QuietTactic
import Derived.BigQuiet
import Derived.Deep.RegionLaw
namespace Go.Proofs.YtbilegkffooioaaGreatDoor
open Go.RowKit Go.Shelf
attribute [local go_sem] Oper.semAt_some

/-- Bit k as a number. -/
def bi (bs : List Bool) (k : Nat) : Nat := if bs.getD k false then 1 else 0
/-- Byte i of bits, the highest first. -/
def by8 (bs : List Bool) (i : Nat) : Nat := bi bs (8*i) * 128 + bi bs (8*i+1) * 64 + bi bs (8*i+2) * 32 + bi bs (8*i+3) * 16 + bi bs (8*i+4) * 8 + bi bs (8*i+5) * 4 + bi bs (8*i+6) * 2 + bi bs (8*i+7)
/-- The first N bytes. -/
def pk (bs : List Bool) (N : Nat) : List Nat := (List.range N).map (by8 bs)
theorem pk_len (bs : List Bool) (N : Nat) : (pk bs N).length = N := by simp [pk]
theorem bi_le (bs : List Bool) (k : Nat) : bi bs k ≤ 1 := by unfold bi; split <;> omega
theorem by8_lt (bs : List Bool) (i : Nat) : by8 bs i < 256 := by
  have := bi_le bs (8*i); have := bi_le bs (8*i+1); have := bi_le bs (8*i+2); have := bi_le bs (8*i+3); have := bi_le bs (8*i+4); have := bi_le bs (8*i+5); have := bi_le bs (8*i+6); have := bi_le bs (8*i+7)
  unfold by8; omega
theorem bi_out (bs : List Bool) (k : Nat) (h : bs.length ≤ k) : bi bs k = 0 := by unfold bi; simp [List.getD, List.getElem?_eq_none h]
theorem bi_snoc (bs : List Bool) (b : Bool) (k : Nat) (h : k ≠ bs.length) : bi (bs ++ [b]) k = bi bs k := by
  rcases Nat.lt_or_ge k bs.length with hlt | hge
  · have e : (bs ++ [b]).getD k false = bs.getD k false := by simp only [List.getD, List.getElem?_append_left hlt]
    unfold bi; rw [e]
  · rw [bi_out bs k hge, bi_out _ _ (by simp; omega)]
theorem bi_last (bs : List Bool) (b : Bool) : bi (bs ++ [b]) bs.length = if b then 1 else 0 := by unfold bi; simp [List.getD]
theorem by8_out (bs : List Bool) (i : Nat) (h : bs.length ≤ 8 * i) : by8 bs i = 0 := by
  unfold by8; rw [bi_out, bi_out, bi_out, bi_out, bi_out, bi_out, bi_out, bi_out] <;> omega
theorem by8_other (bs : List Bool) (b : Bool) (i : Nat) (h : i ≠ bs.length / 8) : by8 (bs ++ [b]) i = by8 bs i := by
  unfold by8; rw [bi_snoc, bi_snoc, bi_snoc, bi_snoc, bi_snoc, bi_snoc, bi_snoc, bi_snoc] <;> omega
theorem by8_here (bs : List Bool) (b : Bool) : by8 (bs ++ [b]) (bs.length / 8) = by8 bs (bs.length / 8) + (if b then 1 else 0) * 2 ^ (7 - bs.length % 8) := by
  have h8 : bs.length % 8 < 8 := Nat.mod_lt _ (by decide)
  have hl : 8 * (bs.length / 8) + bs.length % 8 = bs.length := Nat.div_add_mod _ _
  have hlast := bi_last bs b
  have hz := bi_out bs bs.length (Nat.le_refl _)
  unfold by8
  generalize bs.length / 8 = q at *
  generalize hr : bs.length % 8 = r at *
  rcases (by omega : r = 0 ∨ r = 1 ∨ r = 2 ∨ r = 3 ∨ r = 4 ∨ r = 5 ∨ r = 6 ∨ r = 7) with h | h | h | h | h | h | h | h <;> subst h <;>
    (rw [← hl] at hlast hz
     try simp only [Nat.add_zero] at hlast hz
     rw [hlast, hz]
     repeat rw [bi_snoc _ _ _ (by omega)]
     split <;> simp <;> omega)

theorem or_u8_nat (a b : Nat) (ha : a < 256) (hb : b < 256) : bits .or .u8 (a : Int) (b : Int) = ((a ||| b : Nat) : Int) := by
  have hx : a ||| b < 2 ^ 8 := Nat.or_lt_two_pow (by omega) (by omega)
  have h1 : (BitVec.ofInt 8 (a : Int)).toNat = a := by
    rw [BitVec.ofInt_natCast, BitVec.toNat_ofNat]; exact Nat.mod_eq_of_lt (by omega)
  have h2 : (BitVec.ofInt 8 (b : Int)).toNat = b := by
    rw [BitVec.ofInt_natCast, BitVec.toNat_ofNat]; exact Nat.mod_eq_of_lt (by omega)
  show IntKind.u8.wrap ((BitVec.ofInt 8 (a : Int) ||| BitVec.ofInt 8 (b : Int)).toNat : Int) = _
  rw [BitVec.toNat_or, h1, h2, IntKind.wrap_u8]
  omega
theorem by8_low (bs : List Bool) (k : Nat) (hk : 7 - bs.length % 8 = k) : by8 bs (bs.length / 8) % 2 ^ (k + 1) = 0 := by
  have h8 : bs.length % 8 < 8 := Nat.mod_lt _ (by decide)
  have hl : 8 * (bs.length / 8) + bs.length % 8 = bs.length := Nat.div_add_mod _ _
  have hz : ∀ j, bs.length % 8 ≤ j → bi bs (8 * (bs.length / 8) + j) = 0 := fun j hj => bi_out bs _ (by omega)
  unfold by8
  generalize bs.length / 8 = q at *
  generalize hr : bs.length % 8 = r at *
  have z0 := hz 0; have z1 := hz 1; have z2 := hz 2; have z3 := hz 3; have z4 := hz 4; have z5 := hz 5; have z6 := hz 6; have z7 := hz 7
  simp only [Nat.add_zero] at z0
  rcases (by omega : r = 0 ∨ r = 1 ∨ r = 2 ∨ r = 3 ∨ r = 4 ∨ r = 5 ∨ r = 6 ∨ r = 7) with h | h | h | h | h | h | h | h <;> subst h <;> subst hk <;> simp only [Nat.reduceSub, Nat.reduceAdd, Nat.reducePow] <;> omega
theorem or_here (bs : List Bool) (k : Nat) (hk : 7 - bs.length % 8 = k) (b : Bool) (c : Nat) (hc : (if b then 1 else 0) = c) :
    by8 bs (bs.length / 8) ||| (c * 2 ^ k) = by8 (bs ++ [b]) (bs.length / 8) := by
  have h0 := by8_low bs k hk
  rw [by8_here, hc, hk]
  have hd := Nat.div_add_mod (by8 bs (bs.length / 8)) (2 ^ (k + 1))
  rw [h0, Nat.add_zero] at hd
  have hlt : c * 2 ^ k < 2 ^ (k + 1) := by
    rw [Nat.pow_succ]
    have : c ≤ 1 := by rw [← hc]; split <;> omega
    have hp : 0 < 2 ^ k := Nat.two_pow_pos k
    have : c * 2 ^ k ≤ 1 * 2 ^ k := Nat.mul_le_mul_right _ this
    omega
  rw [← hd, Nat.two_pow_add_eq_or_of_lt hlt]

structure Frm (w w' : World) (g : Nat) (r : Option Nat) : Prop where
  os : w'.os = w.os
  tape : w'.tape = w.tape
  output : w'.output = w.output
  size : w.heap.size ≤ w'.heap.size
  block : ∀ k, k < w.heap.size → k ≠ g → some k ≠ r → w'.heap[k]? = w.heap[k]?
section
variable {w w1 w2 : World} {g : Nat} {r r1 : Option Nat}
theorem Frm.refl (w : World) (g : Nat) (r : Option Nat) : Frm w w g r := ⟨rfl, rfl, rfl, Nat.le_refl _, fun _ _ _ _ => rfl⟩
theorem Frm.trans (h : Frm w w1 g r) (k : Frm w1 w2 g r1) (hr : r1 = r ∨ ∀ j, r1 = some j → w.heap.size ≤ j) : Frm w w2 g r :=
  ⟨k.os.trans h.os, k.tape.trans h.tape, k.output.trans h.output, Nat.le_trans h.size k.size, fun i hi hg hn => (k.block i (Nat.lt_of_lt_of_le hi h.size) hg (by
    rcases hr with rfl | hr
    · exact hn
    · intro e; have := hr i e.symm; omega)).trans (h.block i hi hg hn)⟩
theorem Frm.grown (h : Frm w w1 g r) (k : w1.grownBy w2 r1) (hr : r1 = r ∨ r1 = some g ∨ ∀ j, r1 = some j → w.heap.size ≤ j) : Frm w w2 g r :=
  ⟨k.os.trans h.os, k.tape.trans h.tape, k.output.trans h.output, Nat.le_trans h.size k.size, fun i hi hg hn => (k.block i (Nat.lt_of_lt_of_le hi h.size) (by
    rcases hr with rfl | rfl | hr
    · exact hn
    · intro e; injection e with e; exact hg e
    · intro e; have := hr i e.symm; omega)).trans (h.block i hi hg hn)⟩
end

/-- Block g is a writer that has these bits; v is its row. -/
structure Wr (w : World) (g : Nat) (bs : List Bool) (v : Value) : Prop where
  blk : Blk w g 108 #[v, .int .i64 bs.length]
  row : w.ownsRow (g + 1) 5 1 v ((bs.length + 7) / 8) ((pk bs ((bs.length + 7) / 8)).map bv)

theorem cells_kept {A B : World} {row : Option Nat} (hg : A.grownBy B row) (hr : ∀ r, row = some r → ∃ o : Obj, A.heap[r]? = some o ∧ o.isCells = false) {k : Nat} {o : Obj} (ho : A.heap[k]? = some o) (hc : o.isCells = true) : B.heap[k]? = some o := by
  refine (hg.block k (Array.getElem?_eq_some_iff.1 ho).1 ?_).trans ho
  intro e
  obtain ⟨o', h1, h2⟩ := hr k e.symm
  rw [ho] at h1
  cases h1
  rw [hc] at h2
  cases h2
theorem Wr.kept {A B : World} {row : Option Nat} {g : Nat} {bs : List Bool} {v : Value} (h : Wr A g bs v) (hg : A.grownBy B row) (hr : ∀ r, row = some r → ∃ o : Obj, A.heap[r]? = some o ∧ o.isCells = false) : Wr B g bs v := by
  refine ⟨cells_kept hg hr h.blk rfl, h.row.1, ?_⟩
  rcases h.row.2 with h2 | ⟨g', cap, cur, hv, hb, hh, hx⟩
  · exact .inl h2
  · exact .inr ⟨g', cap, cur, hv, hb, cells_kept hg hr hh rfl, hx⟩

theorem World.grownBy_setCell' (w : World) (g i : Nat) (u : Value) : w.grownBy (w.setCell ⟨g, i, none⟩ u) (some g) := only_put (World.grownBy.refl w _) i u
theorem Blk.other {w : World} {k g : Nat} {t : TypeId} {cs : Array Value} (h : Blk w k t cs) (i : Nat) (u : Value) (hne : k ≠ g) : Blk (w.setCell ⟨g, i, none⟩ u) k t cs :=
  (Below.heap_setCell w ⟨g, i, none⟩ u k hne).trans h
theorem Frm.keepsFrom {W Z : World} {g B base e n : Nat} {v : Value} {xs : List Value} (h : Frm W Z g v.ownBlock) (hrow : W.ownsRow base e 1 v n xs) (hB : g < B) : KeepsFrom B W Z :=
  ⟨h.size, fun k o hk ho hc => (h.block k (Array.getElem?_eq_some_iff.1 ho).1 (by omega) (fun e => by
    rcases hrow.2 with ⟨hv, _⟩ | ⟨g', cap, cur, hv, hb, hh, _⟩
    · subst hv; cases e
    · subst hv; injection e with e
      simp at e; subst e
      rw [ho] at hh; cases hh; cases hc)).trans ho⟩
theorem Frm.kp {W Z : World} {g B1 B2 : Nat} {r : Option Nat} (h : Frm W Z g r) (h1 : B1 ≠ g ∧ some B1 ≠ r) (h2 : B2 ≠ g ∧ some B2 ≠ r) : Kp B1 B2 W Z := fun k o hk ho =>
  (h.block k (Array.getElem?_eq_some_iff.1 ho).1 (by rcases hk with rfl | rfl; exact h1.1; exact h2.1) (by rcases hk with rfl | rfl; exact h1.2; exact h2.2)).trans ho
theorem pk_set (bs : List Bool) (b : Bool) (q : Nat) (hq : bs.length / 8 = q) : ((pk bs (q + 1)).map bv).set q (.int .u8 (by8 (bs ++ [b]) q : Nat)) = (pk (bs ++ [b]) (q + 1)).map bv := by
  unfold pk
  rw [List.range_succ]
  simp only [List.map_append, List.map_cons, List.map_nil]
  rw [List.set_append_right _ _ (by simp)]
  simp only [List.length_map, List.length_range, Nat.sub_self, List.set_cons_zero]
  congr 1
  refine List.ext_getElem? fun i => ?_
  simp only [List.getElem?_map]
  by_cases hi : i < q
  · rw [List.getElem?_range hi]
    simp only [Option.map_some]
    rw [by8_other bs b i (by omega)]
  · have e : (List.range q)[i]? = none := List.getElem?_eq_none (by simpa using Nat.le_of_not_lt hi)
    rw [e]; rfl
theorem Tryz.info5 : (Tryz.prog.info? 5).map (fun i => (i.zero, i.size, i.bytes)) = some (some (.int .u8 0), 1, 1) := by kernel_rfl

/-- Where Put's round stands. -/
structure St (w W : World) (g B1 Bg : Nat) (bs : List Bool) (v0 v : Value) : Prop where
  wr : Wr W g bs v
  box : Blk W Bg 106 #[.pointer (some ⟨g, 0, none⟩)]
  row : v.ownBlock = v0.ownBlock ∨ ∀ k, v.ownBlock = some k → B1 ≤ k
  frm : Frm w W g v0.ownBlock
  big : B1 ≤ W.heap.size

theorem St.kept {w A B : World} {row : Option Nat} {g B1 Bg : Nat} {bs : List Bool} {v0 v : Value} (h : St w A g B1 Bg bs v0 v) (hg : A.grownBy B row) (hB : w.heap.size ≤ B1) (hr : ∀ r, row = some r → B1 ≤ r ∧ ∃ o : Obj, A.heap[r]? = some o ∧ o.isCells = false) : St w B g B1 Bg bs v0 v :=
  ⟨h.wr.kept hg (fun r e => (hr r e).2), cells_kept hg (fun r e => (hr r e).2) h.box rfl, h.row, h.frm.grown hg (.inr (.inr fun j e => Nat.le_trans hB (hr j e).1)), Nat.le_trans h.big hg.size⟩

def PR (g N : Nat) (x : Int) (y : Bool) (L B0 : Nat) (v : Value) (bs : List Bool) (W : World) (a' : Act) (X : World) : Prop := ∃ B t18 t19 t20 t21 t22 t23 t24 t25 t26 r c, a' = { tmps := #[.pointer (some ⟨g, 0, none⟩), .int .u64 N, .int .i64 x, .pointer (some ⟨B0, 0, none⟩), undef, undef, bt y, .int .u64 N, .int .i64 x, .int .i64 (inn x), .func (.func 243) #[] #[.pointer (some ⟨B0 + 1 + 1, 0, none⟩), .pointer (some ⟨B0 + 1, 0, none⟩)], bt y, .pointer (some ⟨g, 0, none⟩), .pointer (some ⟨g, 0, none⟩), .pointer (some ⟨g, 1, none⟩), .int .i64 L, .int .i64 ((L:Int) % 8), .bool B, t18, t19, t20, t21, t22, t23, t24, t25, t26, undef, undef, undef, undef, undef, undef, undef, undef, undef, undef, undef, undef, undef, undef, undef, undef, undef, undef, undef, undef, undef, undef, undef, undef, undef, undef, undef, undef], defers := [] } ∧ Blk X g 108 #[.slice (some ⟨r, 0, none⟩) (L / 8 + 1) c, .int .i64 L] ∧
        X.ownsRow (g + 1) 5 1 (.slice (some ⟨r, 0, none⟩) (L / 8 + 1) c) (L / 8 + 1) ((pk bs (L / 8 + 1)).map bv) ∧ Blk X B0 106 #[.pointer (some ⟨g, 0, none⟩)] ∧ (v.ownBlock = some r ∨ W.heap.size ≤ r) ∧ Frm W X g v.ownBlock

set_option maxRecDepth 100000 in
set_option maxHeartbeats 2000000 in
/-- **Put**: the number's lowest bits come behind all. -/
theorem put_in (g N : Nat) (x : Int) (hN : N < 18446744073709551616) (bs : List Bool) (hl : bs.length ≤ 1000000) (v0 : Value) (w : World) (hw : Wr w g bs v0) :
    CallsIn Fence.wide 3 Tryz.prog 105 #[.pointer (some ⟨g, 0, none⟩), .int .u64 N, .int .i64 x] w fun e w' => e = .returned (.tuple #[]) ∧
      ∃ v, Wr w' g (bs ++ hb N (inn x)) v ∧ (v.ownBlock = v0.ownBlock ∨ ∀ k, v.ownBlock = some k → w.heap.size ≤ k) ∧ Frm w w' g v0.ownBlock := by
  refine callsIn_of_wp_marks Tryz.func105 rfl trivial ?_ rfl
  simp only [Tryz.ntmps105, List.size_toArray, List.length_cons, List.length_nil, Nat.reduceAdd, Nat.reduceSub, Array.replicate_succ, Array.replicate_zero, List.push_toArray, List.append_toArray, List.nil_append, List.cons_append]
  gi_wp2_with (first
    | (refine ⟨trivial, ?_⟩; gi_at_call 179; refine (within_in 2 x _).mono ?_; rintro e w' ⟨rfl, rfl⟩)
    | (refine ⟨trivial, ?_⟩; gi_at_call 178; refine (high_in 2 N _ _).mono ?_; rintro e w' ⟨rfl, rfl⟩))
  have hg := hw.blk.lt
  have bX := Blk.new w 106 #[.pointer (some ⟨g, 0, none⟩)]
  obtain ⟨w1, hw1⟩ : ∃ w1, w.alloc (.cells #[.pointer (some ⟨g, 0, none⟩)] 106) = w1 := ⟨_, rfl⟩
  have hs1 : w1.heap.size = w.heap.size + 1 := by rw [← hw1, World.size_alloc]
  have f1 : w.grownBy w1 none := by rw [← hw1]; exact World.grownBy_alloc w _ none
  rw [hw1] at bX ⊢
  have b2 := (Blk.new w1 182 #[.int .u64 (N:Int)]).alloc (.cells #[.int .i64 (inn x)] 3)
  have b3 := Blk.new (w1.alloc (.cells #[.int .u64 (N:Int)] 182)) 3 #[.int .i64 (inn x)]
  have f2 : w1.grownBy ((w1.alloc (.cells #[.int .u64 (N:Int)] 182)).alloc (.cells #[.int .i64 (inn x)] 3)) none := only_trans (World.grownBy_alloc w1 _ none) (World.grownBy_alloc _ _ none)
  rw [World.size_alloc] at b3
  have bX2 := bX.grown f2 (by simp)
  obtain ⟨w2, hw2⟩ : ∃ w2, (w1.alloc (.cells #[.int .u64 (N:Int)] 182)).alloc (.cells #[.int .i64 (inn x)] 3) = w2 := ⟨_, rfl⟩
  have hs2 : w2.heap.size = w.heap.size + 3 := by rw [← hw2, World.size_alloc, World.size_alloc, hs1]
  rw [hw2] at b2 b3 f2 bX2 ⊢
  rw [hs1] at b2 b3
  have f3 := only_trans f1 f2
  have s0 : St w w2 g w2.heap.size w.heap.size bs v0 v0 := ⟨hw.kept f3 (by simp), bX2, .inl rfl, (Frm.refl w g _).grown f3 (.inr (.inr (by simp))), Nat.le_refl _⟩
  refine wpIn_rangeFunc_ownG rfl (by decide) (gf := 243) (lb := #[.pointer (some ⟨w.heap.size + 1 + 1, 0, none⟩), .pointer (some ⟨w.heap.size + 1, 0, none⟩)]) rfl trivial (enters_of Tryz.func243 (by kernel_rfl) rfl)
    (high_stops 2 (by decide) (w.heap.size + 1 + 1) (w.heap.size + 1) N (inn x) hN (inn_le x) w2 b3 b2) (fun h k j o hj ho => k j o hj (h j o hj ho))
    (fun W l o o' hl ho _ _ j oj hj hoj => (World.putObj_heap_other (by rcases hj with rfl | rfl <;> omega)).trans hoj) (Below.refl _ _) (fun _ => rfl)
    (fun pre W => ∃ v, St w W g w2.heap.size w.heap.size (bs ++ pre) v0 v)
    (fun _ _ _ => False)
    (fun s A B row hs hg hr => by obtain ⟨v, h⟩ := hs; exact ⟨v, h.kept hg (by omega) hr⟩)
    (fun _ _ _ _ _ hs _ _ => hs)
    ⟨v0, by rw [List.append_nil]; exact s0⟩
    (fun y => { tmps := #[.pointer (some ⟨g, 0, none⟩), .int .u64 N, .int .i64 x, .pointer (some ⟨w.heap.size, 0, none⟩), undef, undef, bt y, .int .u64 N, .int .i64 x, .int .i64 (inn x), .func (.func 243) #[] #[.pointer (some ⟨w.heap.size + 1 + 1, 0, none⟩), .pointer (some ⟨w.heap.size + 1, 0, none⟩)], bt y, undef, undef, undef, undef, undef, undef, undef, undef, undef, undef, undef, undef, undef, undef, undef, undef, undef, undef, undef, undef, undef, undef, undef, undef, undef, undef, undef, undef, undef, undef, undef, undef, undef, undef, undef, undef, undef, undef, undef, undef, undef, undef, undef], defers := [] }) ?assign ?body ?done ?stop
  case assign =>
    intro l x W K hK
    gi_wp2
    exact hK
  case body =>
    rintro l pre y W ⟨v, hS⟩ hlt
    obtain ⟨⟨hblk, hrow⟩, hbox, hown, hfrm, hbig⟩ := hS
    have HROW := Lib.hid hrow
    have HFRM := Lib.hid hfrm
    have hc0 := hblk.cell 0
    have hc1 := hblk.cell 1
    have hx0 := hbox.cell 0
    simp only [List.getElem?_toArray, List.getElem?_cons_zero, List.getElem?_cons_succ] at hc0 hc1 hx0
    obtain ⟨L, hL⟩ : ∃ L, (bs ++ pre).length = L := ⟨_, rfl⟩
    rw [hL] at hc1 hblk
    gi_wp2
    · have h8 : L % 8 = 0 := by
        have h : ((L : Int) % 8 == 0) = true := by assumption
        simp at h; omega
      have hq : (L + 7) / 8 = L / 8 := by omega
      rw [hL, hq] at hrow
      refine wpIn_region_round_post (Post := PR g N x y L w.heap.size v (bs ++ pre) W) (by kernel_rfl) (by kernel_rfl) ?post ?walk
      case walk =>
        obtain ⟨i0, hi, hz0, hz1, hz2⟩ := info_parts Tryz.info5
        have hne : some g ≠ v.ownBlock := fun e => by
          rcases hrow.2 with ⟨hv, _⟩ | ⟨g', cap, cur, hv, hb, _⟩
          · subst hv; cases e
          · subst hv; injection e with e; simp at e; omega
        have hsz : ((pk (bs ++ pre) (L / 8)).map bv ++ [.int .u8 0]) = (pk (bs ++ pre) (L / 8 + 1)).map bv := by
          have : by8 (bs ++ pre) (L / 8) = 0 := by8_out _ _ (by omega)
          simp [pk, List.range_succ, this, bv]
        have hne2 : some w.heap.size ≠ v.ownBlock := fun e => by
          rcases hown with h | h
          · rcases hw.row.2 with ⟨hv, _⟩ | ⟨g', cap, cur, hv, hb, hh, _⟩
            · subst hv; rw [h] at e; cases e
            · subst hv; rw [h] at e; injection e with e
              have := (Array.getElem?_eq_some_iff.1 hh).1
              simp at e; omega
          · have := h _ e.symm; omega
        have HN2 := Lib.hid hne2
        have HS := Lib.hid hsz
        have HN := Lib.hid hne
        have HR := Lib.hid hrow
        have HB := Lib.hid hblk
        have HX := Lib.hid hbox
        have HF := Lib.hid hfrm
        have hWs : g < W.heap.size := hblk.lt
        have hLl : L / 8 ≤ 200000 := by
          have := inn_le x
          rw [List.length_append] at hL
          omega
        clear hsz hne hne2 hrow hblk hbox hfrm hown hw bX bX2 b2 b3 s0 f1 f2 f3 hw2 hw1
        have HH : ∀ r c X, X.ownsRow (g + 1) 5 1 (.slice (some ⟨r, 0, none⟩) (L / 8 + 1) c) (L / 8 + 1) ((pk (bs ++ pre) (L / 8)).map bv ++ [.int .u8 0]) → (W.drew.alloc (.cells #[.int .u8 0] 5)).grownBy X v.ownBlock → (v.ownBlock = some r ∨ r = (W.drew.alloc (.cells #[.int .u8 0] 5)).heap.size) →
            Hid (Blk (X.setCell ⟨g, 0, none⟩ (.slice (some ⟨r, 0, none⟩) (L / 8 + 1) c)) g 108 #[.slice (some ⟨r, 0, none⟩) (L / 8 + 1) c, .int .i64 L] ∧ (X.setCell ⟨g, 0, none⟩ (.slice (some ⟨r, 0, none⟩) (L / 8 + 1) c)).ownsRow (g + 1) 5 1 (.slice (some ⟨r, 0, none⟩) (L / 8 + 1) c) (L / 8 + 1) ((pk (bs ++ pre) (L / 8 + 1)).map bv) ∧ Blk (X.setCell ⟨g, 0, none⟩ (.slice (some ⟨r, 0, none⟩) (L / 8 + 1) c)) w.heap.size 106 #[.pointer (some ⟨g, 0, none⟩)] ∧ (v.ownBlock = some r ∨ W.heap.size ≤ r) ∧ Frm W (X.setCell ⟨g, 0, none⟩ (.slice (some ⟨r, 0, none⟩) (L / 8 + 1) c)) g v.ownBlock) ∧
              X.cell? ⟨g, 0, none⟩ = some v ∧ X.frozen? ⟨g, 0, none⟩ = false ∧ X.cell? ⟨w.heap.size, 0, none⟩ = some (.pointer (some ⟨g, 0, none⟩)) := by
          intro r c X hown' hgrow hat
          have hb := (Blk.alloc (w := W.drew) HB.out (.cells #[.int .u8 0] 5)).grown hgrow HN.out
          have hbx := (Blk.alloc (w := W.drew) HX.out (.cells #[.int .u8 0] 5)).grown hgrow HN2.out
          have hG : W.grownBy X v.ownBlock := only_trans (b := W.drew.alloc (.cells #[.int .u8 0] 5)) ⟨rfl, rfl, rfl, by simp, fun k hk _ => Below.heap_alloc W.drew _ k hk⟩ hgrow
          rw [HS.out] at hown'
          refine ⟨Lib.hid ⟨hb.put 0 _, ownsRow_setCell_below hown' (by simp) _, hbx.other _ _ (by omega), hat.imp id (fun e => by rw [e]; simp), ((Frm.refl W g _).grown hG (.inl rfl)).grown (World.grownBy_setCell' X g 0 _) (.inr (.inl rfl))⟩, by simpa using hb.cell 0, hb.free 0, by simpa using hbx.cell 0⟩
        have hA0 : (W.alloc (.cells #[.int .u8 0] 5)).cell? ⟨g, 0, none⟩ = some v := by simpa using (Blk.alloc HB.out (.cells #[.int .u8 0] 5)).cell 0
        have hAx : (W.alloc (.cells #[.int .u8 0] 5)).cell? ⟨w.heap.size, 0, none⟩ = some (.pointer (some ⟨g, 0, none⟩)) := by simpa using (Blk.alloc HX.out (.cells #[.int .u8 0] 5)).cell 0
        refine wpAny_ready (rs := [0, 1, 5]) (by kernel_rfl) (by simp) ?_
        refine AllReady.cons rfl (fun K hK => ?_) ?_
        · go_simp
          refine hK _ _ ?_
          clear hK K
          refine wpAny_ready (rs := [1, 5]) (by kernel_rfl) (by simp) ?_
          refine AllReady.cons rfl (fun K hK => ?_) ?_
          · go_simp
            refine hK _ _ ?_
            clear hK K
            refine wpAny_take (i := 2) (v := ?_) rfl (by kernel_rfl) (by kernel_rfl) (by kernel_rfl) (fun _ _ _ h => nomatch h.1) (Or.inl ⟨by rfl, ?_⟩) ?_
            rotate_left 1
            · (intro w; go_simp; try with_reducible rfl)
            refine wpAny_take (i := 3) (v := ?_) rfl (by kernel_rfl) (by kernel_rfl) (by kernel_rfl) (fun _ _ _ h => nomatch h.1) (Or.inl ⟨by rfl, ?_⟩) ?_
            rotate_left 1
            · (intro w; go_simp; try with_reducible rfl)
            refine wpAny_ready (rs := [4, 5]) (by kernel_rfl) (by simp) ?_
            refine AllReady.cons rfl (fun K hK => ?_) ?_
            · go_simp
              refine hK _ _ ?_
              clear hK K
              refine wpAny_ready (rs := [5]) (by kernel_rfl) (by simp) ?_
              refine AllReady.cons rfl (fun K hK => ?_) ?_
              · go_simp
                refine hK _ _ ?_
                clear hK K
                refine wpAny_ready (rs := [6]) (by kernel_rfl) (by simp) ?_
                refine AllReady.cons rfl (fun K hK => ?_) ?_
                · refine step_append_lies (W.drew.alloc (.cells #[.int .u8 0] 5)) rfl (.tmp 22) (.tmp 23) 29 rfl (g + 1) 5 i0 (.int .u8 0) 1 1 Tryz.underlying29 hi hz0 hz1 hz2 rfl (by decide) v (L / 8) _ rfl (HR.out.alloc _) ⟨W.heap.size, 0, none⟩ 1 1 [.int .u8 0] rfl rfl (cell_one_new _ _ _) (by simp [Value.oneCell']) (by decide) (by simp only [maxLen]; omega) (by omega) (by simp; omega) _ rfl ?_
                  intro r c X hown' hgrow hat hlt'
                  obtain ⟨HL, hd0, hd1, hdx⟩ := HH r c X hown' hgrow hat
                  clear hown' hgrow hat
                  try go_simp
                  refine hK _ _ ?_
                  clear hK K
                  refine wpAny_take (i := 7) (v := ?_) rfl (by kernel_rfl) (by kernel_rfl) (by kernel_rfl) (fun _ _ _ h => nomatch h.1) (Or.inl ⟨by rfl, ?_⟩) ?_
                  rotate_left 1
                  · (intro w; go_simp; try with_reducible rfl)
                  refine wpAny_take (i := 8) (v := ?_) rfl (by kernel_rfl) (by kernel_rfl) (by kernel_rfl) (fun _ _ _ h => nomatch h.1) (Or.inl ⟨by rfl, ?_⟩) ?_
                  rotate_left 1
                  · (intro w; go_simp; try with_reducible rfl)
                  refine wpAny_ready (rs := [9]) (by kernel_rfl) (by simp) ?_
                  refine AllReady.cons rfl (fun K hK => ?_) ?_
                  · go_simp
                    refine hK _ _ ?_
                    clear hK K
                    refine wpAny_done (by kernel_rfl) ?_ _
                    exact ⟨rfl, _, _, _, _, _, _, _, _, _, _, _, _, rfl, HL.out⟩
                  exact AllReady.nil
                exact AllReady.nil
              exact AllReady.nil
            refine AllReady.cons rfl (fun K hK => ?_) ?_
            · go_simp
              refine hK _ _ ?_
              clear hK K
              refine wpAny_ready (rs := [4]) (by kernel_rfl) (by simp) ?_
              refine AllReady.cons rfl (fun K hK => ?_) ?_
              · go_simp
                refine hK _ _ ?_
                clear hK K
                refine wpAny_ready (rs := [6]) (by kernel_rfl) (by simp) ?_
                refine AllReady.cons rfl (fun K hK => ?_) ?_
                · refine step_append_lies (W.drew.alloc (.cells #[.int .u8 0] 5)) rfl (.tmp 22) (.tmp 23) 29 rfl (g + 1) 5 i0 (.int .u8 0) 1 1 Tryz.underlying29 hi hz0 hz1 hz2 rfl (by decide) v (L / 8) _ rfl (HR.out.alloc _) ⟨W.heap.size, 0, none⟩ 1 1 [.int .u8 0] rfl rfl (cell_one_new _ _ _) (by simp [Value.oneCell']) (by decide) (by simp only [maxLen]; omega) (by omega) (by simp; omega) _ rfl ?_
                  intro r c X hown' hgrow hat hlt'
                  obtain ⟨HL, hd0, hd1, hdx⟩ := HH r c X hown' hgrow hat
                  clear hown' hgrow hat
                  try go_simp
                  refine hK _ _ ?_
                  clear hK K
                  refine wpAny_take (i := 7) (v := ?_) rfl (by kernel_rfl) (by kernel_rfl) (by kernel_rfl) (fun _ _ _ h => nomatch h.1) (Or.inl ⟨by rfl, ?_⟩) ?_
                  rotate_left 1
                  · (intro w; go_simp; try with_reducible rfl)
                  refine wpAny_take (i := 8) (v := ?_) rfl (by kernel_rfl) (by kernel_rfl) (by kernel_rfl) (fun _ _ _ h => nomatch h.1) (Or.inl ⟨by rfl, ?_⟩) ?_
                  rotate_left 1
                  · (intro w; go_simp; try with_reducible rfl)
                  refine wpAny_ready (rs := [9]) (by kernel_rfl) (by simp) ?_
                  refine AllReady.cons rfl (fun K hK => ?_) ?_
                  · go_simp
                    refine hK _ _ ?_
                    clear hK K
                    refine wpAny_done (by kernel_rfl) ?_ _
                    exact ⟨rfl, _, _, _, _, _, _, _, _, _, _, _, _, rfl, HL.out⟩
                  exact AllReady.nil
                exact AllReady.nil
              exact AllReady.nil
            exact AllReady.nil
          refine AllReady.cons rfl (fun K hK => ?_) ?_
          · go_simp
            refine hK _ _ ?_
            clear hK K
            refine wpAny_ready (rs := [1]) (by kernel_rfl) (by simp) ?_
            refine AllReady.cons rfl (fun K hK => ?_) ?_
            · go_simp
              refine hK _ _ ?_
              clear hK K
              refine wpAny_take (i := 2) (v := ?_) rfl (by kernel_rfl) (by kernel_rfl) (by kernel_rfl) (fun _ _ _ h => nomatch h.1) (Or.inl ⟨by rfl, ?_⟩) ?_
              rotate_left 1
              · (intro w; go_simp; try with_reducible rfl)
              refine wpAny_take (i := 3) (v := ?_) rfl (by kernel_rfl) (by kernel_rfl) (by kernel_rfl) (fun _ _ _ h => nomatch h.1) (Or.inl ⟨by rfl, ?_⟩) ?_
              rotate_left 1
              · (intro w; go_simp; try with_reducible rfl)
              refine wpAny_ready (rs := [4]) (by kernel_rfl) (by simp) ?_
              refine AllReady.cons rfl (fun K hK => ?_) ?_
              · go_simp
                refine hK _ _ ?_
                clear hK K
                refine wpAny_ready (rs := [6]) (by kernel_rfl) (by simp) ?_
                refine AllReady.cons rfl (fun K hK => ?_) ?_
                · refine step_append_lies (W.drew.alloc (.cells #[.int .u8 0] 5)) rfl (.tmp 22) (.tmp 23) 29 rfl (g + 1) 5 i0 (.int .u8 0) 1 1 Tryz.underlying29 hi hz0 hz1 hz2 rfl (by decide) v (L / 8) _ rfl (HR.out.alloc _) ⟨W.heap.size, 0, none⟩ 1 1 [.int .u8 0] rfl rfl (cell_one_new _ _ _) (by simp [Value.oneCell']) (by decide) (by simp only [maxLen]; omega) (by omega) (by simp; omega) _ rfl ?_
                  intro r c X hown' hgrow hat hlt'
                  obtain ⟨HL, hd0, hd1, hdx⟩ := HH r c X hown' hgrow hat
                  clear hown' hgrow hat
                  try go_simp
                  refine hK _ _ ?_
                  clear hK K
                  refine wpAny_take (i := 7) (v := ?_) rfl (by kernel_rfl) (by kernel_rfl) (by kernel_rfl) (fun _ _ _ h => nomatch h.1) (Or.inl ⟨by rfl, ?_⟩) ?_
                  rotate_left 1
                  · (intro w; go_simp; try with_reducible rfl)
                  refine wpAny_take (i := 8) (v := ?_) rfl (by kernel_rfl) (by kernel_rfl) (by kernel_rfl) (fun _ _ _ h => nomatch h.1) (Or.inl ⟨by rfl, ?_⟩) ?_
                  rotate_left 1
                  · (intro w; go_simp; try with_reducible rfl)
                  refine wpAny_ready (rs := [9]) (by kernel_rfl) (by simp) ?_
                  refine AllReady.cons rfl (fun K hK => ?_) ?_
                  · go_simp
                    refine hK _ _ ?_
                    clear hK K
                    refine wpAny_done (by kernel_rfl) ?_ _
                    exact ⟨rfl, _, _, _, _, _, _, _, _, _, _, _, _, rfl, HL.out⟩
                  exact AllReady.nil
                exact AllReady.nil
              exact AllReady.nil
            exact AllReady.nil
          exact AllReady.nil
        refine AllReady.cons rfl (fun K hK => ?_) ?_
        · go_simp
          refine hK _ _ ?_
          clear hK K
          refine wpAny_take (i := 2) (v := ?_) rfl (by kernel_rfl) (by kernel_rfl) (by kernel_rfl) (fun _ _ _ h => nomatch h.1) (Or.inl ⟨by rfl, ?_⟩) ?_
          rotate_left 1
          · (intro w; go_simp; try with_reducible rfl)
          refine wpAny_take (i := 3) (v := ?_) rfl (by kernel_rfl) (by kernel_rfl) (by kernel_rfl) (fun _ _ _ h => nomatch h.1) (Or.inl ⟨by rfl, ?_⟩) ?_
          rotate_left 1
          · (intro w; go_simp; try with_reducible rfl)
          refine wpAny_ready (rs := [0, 4, 5]) (by kernel_rfl) (by simp) ?_
          refine AllReady.cons rfl (fun K hK => ?_) ?_
          · go_simp
            refine hK _ _ ?_
            clear hK K
            refine wpAny_ready (rs := [4, 5]) (by kernel_rfl) (by simp) ?_
            refine AllReady.cons rfl (fun K hK => ?_) ?_
            · go_simp
              refine hK _ _ ?_
              clear hK K
              refine wpAny_ready (rs := [5]) (by kernel_rfl) (by simp) ?_
              refine AllReady.cons rfl (fun K hK => ?_) ?_
              · go_simp
                refine hK _ _ ?_
                clear hK K
                refine wpAny_ready (rs := [6]) (by kernel_rfl) (by simp) ?_
                refine AllReady.cons rfl (fun K hK => ?_) ?_
                · refine step_append_lies (W.drew.alloc (.cells #[.int .u8 0] 5)) rfl (.tmp 22) (.tmp 23) 29 rfl (g + 1) 5 i0 (.int .u8 0) 1 1 Tryz.underlying29 hi hz0 hz1 hz2 rfl (by decide) v (L / 8) _ rfl (HR.out.alloc _) ⟨W.heap.size, 0, none⟩ 1 1 [.int .u8 0] rfl rfl (cell_one_new _ _ _) (by simp [Value.oneCell']) (by decide) (by simp only [maxLen]; omega) (by omega) (by simp; omega) _ rfl ?_
                  intro r c X hown' hgrow hat hlt'
                  obtain ⟨HL, hd0, hd1, hdx⟩ := HH r c X hown' hgrow hat
                  clear hown' hgrow hat
                  try go_simp
                  refine hK _ _ ?_
                  clear hK K
                  refine wpAny_take (i := 7) (v := ?_) rfl (by kernel_rfl) (by kernel_rfl) (by kernel_rfl) (fun _ _ _ h => nomatch h.1) (Or.inl ⟨by rfl, ?_⟩) ?_
                  rotate_left 1
                  · (intro w; go_simp; try with_reducible rfl)
                  refine wpAny_take (i := 8) (v := ?_) rfl (by kernel_rfl) (by kernel_rfl) (by kernel_rfl) (fun _ _ _ h => nomatch h.1) (Or.inl ⟨by rfl, ?_⟩) ?_
                  rotate_left 1
                  · (intro w; go_simp; try with_reducible rfl)
                  refine wpAny_ready (rs := [9]) (by kernel_rfl) (by simp) ?_
                  refine AllReady.cons rfl (fun K hK => ?_) ?_
                  · go_simp
                    refine hK _ _ ?_
                    clear hK K
                    refine wpAny_done (by kernel_rfl) ?_ _
                    exact ⟨rfl, _, _, _, _, _, _, _, _, _, _, _, _, rfl, HL.out⟩
                  exact AllReady.nil
                exact AllReady.nil
              exact AllReady.nil
            refine AllReady.cons rfl (fun K hK => ?_) ?_
            · go_simp
              refine hK _ _ ?_
              clear hK K
              refine wpAny_ready (rs := [4]) (by kernel_rfl) (by simp) ?_
              refine AllReady.cons rfl (fun K hK => ?_) ?_
              · go_simp
                refine hK _ _ ?_
                clear hK K
                refine wpAny_ready (rs := [6]) (by kernel_rfl) (by simp) ?_
                refine AllReady.cons rfl (fun K hK => ?_) ?_
                · refine step_append_lies (W.drew.alloc (.cells #[.int .u8 0] 5)) rfl (.tmp 22) (.tmp 23) 29 rfl (g + 1) 5 i0 (.int .u8 0) 1 1 Tryz.underlying29 hi hz0 hz1 hz2 rfl (by decide) v (L / 8) _ rfl (HR.out.alloc _) ⟨W.heap.size, 0, none⟩ 1 1 [.int .u8 0] rfl rfl (cell_one_new _ _ _) (by simp [Value.oneCell']) (by decide) (by simp only [maxLen]; omega) (by omega) (by simp; omega) _ rfl ?_
                  intro r c X hown' hgrow hat hlt'
                  obtain ⟨HL, hd0, hd1, hdx⟩ := HH r c X hown' hgrow hat
                  clear hown' hgrow hat
                  try go_simp
                  refine hK _ _ ?_
                  clear hK K
                  refine wpAny_take (i := 7) (v := ?_) rfl (by kernel_rfl) (by kernel_rfl) (by kernel_rfl) (fun _ _ _ h => nomatch h.1) (Or.inl ⟨by rfl, ?_⟩) ?_
                  rotate_left 1
                  · (intro w; go_simp; try with_reducible rfl)
                  refine wpAny_take (i := 8) (v := ?_) rfl (by kernel_rfl) (by kernel_rfl) (by kernel_rfl) (fun _ _ _ h => nomatch h.1) (Or.inl ⟨by rfl, ?_⟩) ?_
                  rotate_left 1
                  · (intro w; go_simp; try with_reducible rfl)
                  refine wpAny_ready (rs := [9]) (by kernel_rfl) (by simp) ?_
                  refine AllReady.cons rfl (fun K hK => ?_) ?_
                  · go_simp
                    refine hK _ _ ?_
                    clear hK K
                    refine wpAny_done (by kernel_rfl) ?_ _
                    exact ⟨rfl, _, _, _, _, _, _, _, _, _, _, _, _, rfl, HL.out⟩
                  exact AllReady.nil
                exact AllReady.nil
              exact AllReady.nil
            exact AllReady.nil
          refine AllReady.cons rfl (fun K hK => ?_) ?_
          · go_simp
            refine hK _ _ ?_
            clear hK K
            refine wpAny_ready (rs := [0, 5]) (by kernel_rfl) (by simp) ?_
            refine AllReady.cons rfl (fun K hK => ?_) ?_
            · go_simp
              refine hK _ _ ?_
              clear hK K
              refine wpAny_ready (rs := [5]) (by kernel_rfl) (by simp) ?_
              refine AllReady.cons rfl (fun K hK => ?_) ?_
              · go_simp
                refine hK _ _ ?_
                clear hK K
                refine wpAny_ready (rs := [6]) (by kernel_rfl) (by simp) ?_
                refine AllReady.cons rfl (fun K hK => ?_) ?_
                · refine step_append_lies (W.drew.alloc (.cells #[.int .u8 0] 5)) rfl (.tmp 22) (.tmp 23) 29 rfl (g + 1) 5 i0 (.int .u8 0) 1 1 Tryz.underlying29 hi hz0 hz1 hz2 rfl (by decide) v (L / 8) _ rfl (HR.out.alloc _) ⟨W.heap.size, 0, none⟩ 1 1 [.int .u8 0] rfl rfl (cell_one_new _ _ _) (by simp [Value.oneCell']) (by decide) (by simp only [maxLen]; omega) (by omega) (by simp; omega) _ rfl ?_
                  intro r c X hown' hgrow hat hlt'
                  obtain ⟨HL, hd0, hd1, hdx⟩ := HH r c X hown' hgrow hat
                  clear hown' hgrow hat
                  try go_simp
                  refine hK _ _ ?_
                  clear hK K
                  refine wpAny_take (i := 7) (v := ?_) rfl (by kernel_rfl) (by kernel_rfl) (by kernel_rfl) (fun _ _ _ h => nomatch h.1) (Or.inl ⟨by rfl, ?_⟩) ?_
                  rotate_left 1
                  · (intro w; go_simp; try with_reducible rfl)
                  refine wpAny_take (i := 8) (v := ?_) rfl (by kernel_rfl) (by kernel_rfl) (by kernel_rfl) (fun _ _ _ h => nomatch h.1) (Or.inl ⟨by rfl, ?_⟩) ?_
                  rotate_left 1
                  · (intro w; go_simp; try with_reducible rfl)
                  refine wpAny_ready (rs := [9]) (by kernel_rfl) (by simp) ?_
                  refine AllReady.cons rfl (fun K hK => ?_) ?_
                  · go_simp
                    refine hK _ _ ?_
                    clear hK K
                    refine wpAny_done (by kernel_rfl) ?_ _
                    exact ⟨rfl, _, _, _, _, _, _, _, _, _, _, _, _, rfl, HL.out⟩
                  exact AllReady.nil
                exact AllReady.nil
              exact AllReady.nil
            refine AllReady.cons rfl (fun K hK => ?_) ?_
            · go_simp
              refine hK _ _ ?_
              clear hK K
              refine wpAny_ready (rs := [0, 6]) (by kernel_rfl) (by simp) ?_
              refine AllReady.cons rfl (fun K hK => ?_) ?_
              · go_simp
                refine hK _ _ ?_
                clear hK K
                refine wpAny_ready (rs := [6]) (by kernel_rfl) (by simp) ?_
                refine AllReady.cons rfl (fun K hK => ?_) ?_
                · refine step_append_lies (W.drew.alloc (.cells #[.int .u8 0] 5)) rfl (.tmp 22) (.tmp 23) 29 rfl (g + 1) 5 i0 (.int .u8 0) 1 1 Tryz.underlying29 hi hz0 hz1 hz2 rfl (by decide) v (L / 8) _ rfl (HR.out.alloc _) ⟨W.heap.size, 0, none⟩ 1 1 [.int .u8 0] rfl rfl (cell_one_new _ _ _) (by simp [Value.oneCell']) (by decide) (by simp only [maxLen]; omega) (by omega) (by simp; omega) _ rfl ?_
                  intro r c X hown' hgrow hat hlt'
                  obtain ⟨HL, hd0, hd1, hdx⟩ := HH r c X hown' hgrow hat
                  clear hown' hgrow hat
                  try go_simp
                  refine hK _ _ ?_
                  clear hK K
                  refine wpAny_take (i := 7) (v := ?_) rfl (by kernel_rfl) (by kernel_rfl) (by kernel_rfl) (fun _ _ _ h => nomatch h.1) (Or.inl ⟨by rfl, ?_⟩) ?_
                  rotate_left 1
                  · (intro w; go_simp; try with_reducible rfl)
                  refine wpAny_take (i := 8) (v := ?_) rfl (by kernel_rfl) (by kernel_rfl) (by kernel_rfl) (fun _ _ _ h => nomatch h.1) (Or.inl ⟨by rfl, ?_⟩) ?_
                  rotate_left 1
                  · (intro w; go_simp; try with_reducible rfl)
                  refine wpAny_ready (rs := [9]) (by kernel_rfl) (by simp) ?_
                  refine AllReady.cons rfl (fun K hK => ?_) ?_
                  · go_simp
                    refine hK _ _ ?_
                    clear hK K
                    refine wpAny_done (by kernel_rfl) ?_ _
                    exact ⟨rfl, _, _, _, _, _, _, _, _, _, _, _, _, rfl, HL.out⟩
                  exact AllReady.nil
                exact AllReady.nil
              refine AllReady.cons rfl (fun K hK => ?_) ?_
              · refine step_append_lies (W.drew.alloc (.cells #[.int .u8 0] 5)) rfl (.tmp 22) (.tmp 23) 29 rfl (g + 1) 5 i0 (.int .u8 0) 1 1 Tryz.underlying29 hi hz0 hz1 hz2 rfl (by decide) v (L / 8) _ rfl (HR.out.alloc _) ⟨W.heap.size, 0, none⟩ 1 1 [.int .u8 0] rfl rfl (cell_one_new _ _ _) (by simp [Value.oneCell']) (by decide) (by simp only [maxLen]; omega) (by omega) (by simp; omega) _ rfl ?_
                intro r c X hown' hgrow hat hlt'
                obtain ⟨HL, hd0, hd1, hdx⟩ := HH r c X hown' hgrow hat
                clear hown' hgrow hat
                try go_simp
                refine hK _ _ ?_
                clear hK K
                refine wpAny_ready (rs := [0]) (by kernel_rfl) (by simp) ?_
                refine AllReady.cons rfl (fun K hK => ?_) ?_
                · go_simp
                  refine hK _ _ ?_
                  clear hK K
                  refine wpAny_take (i := 7) (v := ?_) rfl (by kernel_rfl) (by kernel_rfl) (by kernel_rfl) (fun _ _ _ h => nomatch h.1) (Or.inl ⟨by rfl, ?_⟩) ?_
                  rotate_left 1
                  · (intro w; go_simp; try with_reducible rfl)
                  refine wpAny_take (i := 8) (v := ?_) rfl (by kernel_rfl) (by kernel_rfl) (by kernel_rfl) (fun _ _ _ h => nomatch h.1) (Or.inl ⟨by rfl, ?_⟩) ?_
                  rotate_left 1
                  · (intro w; go_simp; try with_reducible rfl)
                  refine wpAny_ready (rs := [9]) (by kernel_rfl) (by simp) ?_
                  refine AllReady.cons rfl (fun K hK => ?_) ?_
                  · go_simp
                    refine hK _ _ ?_
                    clear hK K
                    refine wpAny_done (by kernel_rfl) ?_ _
                    exact ⟨rfl, _, _, _, _, _, _, _, _, _, _, _, _, rfl, HL.out⟩
                  exact AllReady.nil
                exact AllReady.nil
              exact AllReady.nil
            exact AllReady.nil
          refine AllReady.cons rfl (fun K hK => ?_) ?_
          · go_simp
            refine hK _ _ ?_
            clear hK K
            refine wpAny_ready (rs := [0, 4]) (by kernel_rfl) (by simp) ?_
            refine AllReady.cons rfl (fun K hK => ?_) ?_
            · go_simp
              refine hK _ _ ?_
              clear hK K
              refine wpAny_ready (rs := [4]) (by kernel_rfl) (by simp) ?_
              refine AllReady.cons rfl (fun K hK => ?_) ?_
              · go_simp
                refine hK _ _ ?_
                clear hK K
                refine wpAny_ready (rs := [6]) (by kernel_rfl) (by simp) ?_
                refine AllReady.cons rfl (fun K hK => ?_) ?_
                · refine step_append_lies (W.drew.alloc (.cells #[.int .u8 0] 5)) rfl (.tmp 22) (.tmp 23) 29 rfl (g + 1) 5 i0 (.int .u8 0) 1 1 Tryz.underlying29 hi hz0 hz1 hz2 rfl (by decide) v (L / 8) _ rfl (HR.out.alloc _) ⟨W.heap.size, 0, none⟩ 1 1 [.int .u8 0] rfl rfl (cell_one_new _ _ _) (by simp [Value.oneCell']) (by decide) (by simp only [maxLen]; omega) (by omega) (by simp; omega) _ rfl ?_
                  intro r c X hown' hgrow hat hlt'
                  obtain ⟨HL, hd0, hd1, hdx⟩ := HH r c X hown' hgrow hat
                  clear hown' hgrow hat
                  try go_simp
                  refine hK _ _ ?_
                  clear hK K
                  refine wpAny_take (i := 7) (v := ?_) rfl (by kernel_rfl) (by kernel_rfl) (by kernel_rfl) (fun _ _ _ h => nomatch h.1) (Or.inl ⟨by rfl, ?_⟩) ?_
                  rotate_left 1
                  · (intro w; go_simp; try with_reducible rfl)
                  refine wpAny_take (i := 8) (v := ?_) rfl (by kernel_rfl) (by kernel_rfl) (by kernel_rfl) (fun _ _ _ h => nomatch h.1) (Or.inl ⟨by rfl, ?_⟩) ?_
                  rotate_left 1
                  · (intro w; go_simp; try with_reducible rfl)
                  refine wpAny_ready (rs := [9]) (by kernel_rfl) (by simp) ?_
                  refine AllReady.cons rfl (fun K hK => ?_) ?_
                  · go_simp
                    refine hK _ _ ?_
                    clear hK K
                    refine wpAny_done (by kernel_rfl) ?_ _
                    exact ⟨rfl, _, _, _, _, _, _, _, _, _, _, _, _, rfl, HL.out⟩
                  exact AllReady.nil
                exact AllReady.nil
              exact AllReady.nil
            refine AllReady.cons rfl (fun K hK => ?_) ?_
            · go_simp
              refine hK _ _ ?_
              clear hK K
              refine wpAny_ready (rs := [0, 6]) (by kernel_rfl) (by simp) ?_
              refine AllReady.cons rfl (fun K hK => ?_) ?_
              · go_simp
                refine hK _ _ ?_
                clear hK K
                refine wpAny_ready (rs := [6]) (by kernel_rfl) (by simp) ?_
                refine AllReady.cons rfl (fun K hK => ?_) ?_
                · refine step_append_lies (W.drew.alloc (.cells #[.int .u8 0] 5)) rfl (.tmp 22) (.tmp 23) 29 rfl (g + 1) 5 i0 (.int .u8 0) 1 1 Tryz.underlying29 hi hz0 hz1 hz2 rfl (by decide) v (L / 8) _ rfl (HR.out.alloc _) ⟨W.heap.size, 0, none⟩ 1 1 [.int .u8 0] rfl rfl (cell_one_new _ _ _) (by simp [Value.oneCell']) (by decide) (by simp only [maxLen]; omega) (by omega) (by simp; omega) _ rfl ?_
                  intro r c X hown' hgrow hat hlt'
                  obtain ⟨HL, hd0, hd1, hdx⟩ := HH r c X hown' hgrow hat
                  clear hown' hgrow hat
                  try go_simp
                  refine hK _ _ ?_
                  clear hK K
                  refine wpAny_take (i := 7) (v := ?_) rfl (by kernel_rfl) (by kernel_rfl) (by kernel_rfl) (fun _ _ _ h => nomatch h.1) (Or.inl ⟨by rfl, ?_⟩) ?_
                  rotate_left 1
                  · (intro w; go_simp; try with_reducible rfl)
                  refine wpAny_take (i := 8) (v := ?_) rfl (by kernel_rfl) (by kernel_rfl) (by kernel_rfl) (fun _ _ _ h => nomatch h.1) (Or.inl ⟨by rfl, ?_⟩) ?_
                  rotate_left 1
                  · (intro w; go_simp; try with_reducible rfl)
                  refine wpAny_ready (rs := [9]) (by kernel_rfl) (by simp) ?_
                  refine AllReady.cons rfl (fun K hK => ?_) ?_
                  · go_simp
                    refine hK _ _ ?_
                    clear hK K
                    refine wpAny_done (by kernel_rfl) ?_ _
                    exact ⟨rfl, _, _, _, _, _, _, _, _, _, _, _, _, rfl, HL.out⟩
                  exact AllReady.nil
                exact AllReady.nil
              refine AllReady.cons rfl (fun K hK => ?_) ?_
              · refine step_append_lies (W.drew.alloc (.cells #[.int .u8 0] 5)) rfl (.tmp 22) (.tmp 23) 29 rfl (g + 1) 5 i0 (.int .u8 0) 1 1 Tryz.underlying29 hi hz0 hz1 hz2 rfl (by decide) v (L / 8) _ rfl (HR.out.alloc _) ⟨W.heap.size, 0, none⟩ 1 1 [.int .u8 0] rfl rfl (cell_one_new _ _ _) (by simp [Value.oneCell']) (by decide) (by simp only [maxLen]; omega) (by omega) (by simp; omega) _ rfl ?_
                intro r c X hown' hgrow hat hlt'
                obtain ⟨HL, hd0, hd1, hdx⟩ := HH r c X hown' hgrow hat
                clear hown' hgrow hat
                try go_simp
                refine hK _ _ ?_
                clear hK K
                refine wpAny_ready (rs := [0]) (by kernel_rfl) (by simp) ?_
                refine AllReady.cons rfl (fun K hK => ?_) ?_
                · go_simp
                  refine hK _ _ ?_
                  clear hK K
                  refine wpAny_take (i := 7) (v := ?_) rfl (by kernel_rfl) (by kernel_rfl) (by kernel_rfl) (fun _ _ _ h => nomatch h.1) (Or.inl ⟨by rfl, ?_⟩) ?_
                  rotate_left 1
                  · (intro w; go_simp; try with_reducible rfl)
                  refine wpAny_take (i := 8) (v := ?_) rfl (by kernel_rfl) (by kernel_rfl) (by kernel_rfl) (fun _ _ _ h => nomatch h.1) (Or.inl ⟨by rfl, ?_⟩) ?_
                  rotate_left 1
                  · (intro w; go_simp; try with_reducible rfl)
                  refine wpAny_ready (rs := [9]) (by kernel_rfl) (by simp) ?_
                  refine AllReady.cons rfl (fun K hK => ?_) ?_
                  · go_simp
                    refine hK _ _ ?_
                    clear hK K
                    refine wpAny_done (by kernel_rfl) ?_ _
                    exact ⟨rfl, _, _, _, _, _, _, _, _, _, _, _, _, rfl, HL.out⟩
                  exact AllReady.nil
                exact AllReady.nil
              exact AllReady.nil
            exact AllReady.nil
          exact AllReady.nil
        refine AllReady.cons rfl (fun K hK => ?_) ?_
        · go_simp
          refine hK _ _ ?_
          clear hK K
          refine wpAny_ready (rs := [0, 1]) (by kernel_rfl) (by simp) ?_
          refine AllReady.cons rfl (fun K hK => ?_) ?_
          · go_simp
            refine hK _ _ ?_
            clear hK K
            refine wpAny_ready (rs := [1]) (by kernel_rfl) (by simp) ?_
            refine AllReady.cons rfl (fun K hK => ?_) ?_
            · go_simp
              refine hK _ _ ?_
              clear hK K
              refine wpAny_take (i := 2) (v := ?_) rfl (by kernel_rfl) (by kernel_rfl) (by kernel_rfl) (fun _ _ _ h => nomatch h.1) (Or.inl ⟨by rfl, ?_⟩) ?_
              rotate_left 1
              · (intro w; go_simp; try with_reducible rfl)
              refine wpAny_take (i := 3) (v := ?_) rfl (by kernel_rfl) (by kernel_rfl) (by kernel_rfl) (fun _ _ _ h => nomatch h.1) (Or.inl ⟨by rfl, ?_⟩) ?_
              rotate_left 1
              · (intro w; go_simp; try with_reducible rfl)
              refine wpAny_ready (rs := [4]) (by kernel_rfl) (by simp) ?_
              refine AllReady.cons rfl (fun K hK => ?_) ?_
              · go_simp
                refine hK _ _ ?_
                clear hK K
                refine wpAny_ready (rs := [6]) (by kernel_rfl) (by simp) ?_
                refine AllReady.cons rfl (fun K hK => ?_) ?_
                · refine step_append_lies (W.drew.alloc (.cells #[.int .u8 0] 5)) rfl (.tmp 22) (.tmp 23) 29 rfl (g + 1) 5 i0 (.int .u8 0) 1 1 Tryz.underlying29 hi hz0 hz1 hz2 rfl (by decide) v (L / 8) _ rfl (HR.out.alloc _) ⟨W.heap.size, 0, none⟩ 1 1 [.int .u8 0] rfl rfl (cell_one_new _ _ _) (by simp [Value.oneCell']) (by decide) (by simp only [maxLen]; omega) (by omega) (by simp; omega) _ rfl ?_
                  intro r c X hown' hgrow hat hlt'
                  obtain ⟨HL, hd0, hd1, hdx⟩ := HH r c X hown' hgrow hat
                  clear hown' hgrow hat
                  try go_simp
                  refine hK _ _ ?_
                  clear hK K
                  refine wpAny_take (i := 7) (v := ?_) rfl (by kernel_rfl) (by kernel_rfl) (by kernel_rfl) (fun _ _ _ h => nomatch h.1) (Or.inl ⟨by rfl, ?_⟩) ?_
                  rotate_left 1
                  · (intro w; go_simp; try with_reducible rfl)
                  refine wpAny_take (i := 8) (v := ?_) rfl (by kernel_rfl) (by kernel_rfl) (by kernel_rfl) (fun _ _ _ h => nomatch h.1) (Or.inl ⟨by rfl, ?_⟩) ?_
                  rotate_left 1
                  · (intro w; go_simp; try with_reducible rfl)
                  refine wpAny_ready (rs := [9]) (by kernel_rfl) (by simp) ?_
                  refine AllReady.cons rfl (fun K hK => ?_) ?_
                  · go_simp
                    refine hK _ _ ?_
                    clear hK K
                    refine wpAny_done (by kernel_rfl) ?_ _
                    exact ⟨rfl, _, _, _, _, _, _, _, _, _, _, _, _, rfl, HL.out⟩
                  exact AllReady.nil
                exact AllReady.nil
              exact AllReady.nil
            exact AllReady.nil
          refine AllReady.cons rfl (fun K hK => ?_) ?_
          · go_simp
            refine hK _ _ ?_
            clear hK K
            refine wpAny_take (i := 2) (v := ?_) rfl (by kernel_rfl) (by kernel_rfl) (by kernel_rfl) (fun _ _ _ h => nomatch h.1) (Or.inl ⟨by rfl, ?_⟩) ?_
            rotate_left 1
            · (intro w; go_simp; try with_reducible rfl)
            refine wpAny_take (i := 3) (v := ?_) rfl (by kernel_rfl) (by kernel_rfl) (by kernel_rfl) (fun _ _ _ h => nomatch h.1) (Or.inl ⟨by rfl, ?_⟩) ?_
            rotate_left 1
            · (intro w; go_simp; try with_reducible rfl)
            refine wpAny_ready (rs := [0, 4]) (by kernel_rfl) (by simp) ?_
            refine AllReady.cons rfl (fun K hK => ?_) ?_
            · go_simp
              refine hK _ _ ?_
              clear hK K
              refine wpAny_ready (rs := [4]) (by kernel_rfl) (by simp) ?_
              refine AllReady.cons rfl (fun K hK => ?_) ?_
              · go_simp
                refine hK _ _ ?_
                clear hK K
                refine wpAny_ready (rs := [6]) (by kernel_rfl) (by simp) ?_
                refine AllReady.cons rfl (fun K hK => ?_) ?_
                · refine step_append_lies (W.drew.alloc (.cells #[.int .u8 0] 5)) rfl (.tmp 22) (.tmp 23) 29 rfl (g + 1) 5 i0 (.int .u8 0) 1 1 Tryz.underlying29 hi hz0 hz1 hz2 rfl (by decide) v (L / 8) _ rfl (HR.out.alloc _) ⟨W.heap.size, 0, none⟩ 1 1 [.int .u8 0] rfl rfl (cell_one_new _ _ _) (by simp [Value.oneCell']) (by decide) (by simp only [maxLen]; omega) (by omega) (by simp; omega) _ rfl ?_
                  intro r c X hown' hgrow hat hlt'
                  obtain ⟨HL, hd0, hd1, hdx⟩ := HH r c X hown' hgrow hat
                  clear hown' hgrow hat
                  try go_simp
                  refine hK _ _ ?_
                  clear hK K
                  refine wpAny_take (i := 7) (v := ?_) rfl (by kernel_rfl) (by kernel_rfl) (by kernel_rfl) (fun _ _ _ h => nomatch h.1) (Or.inl ⟨by rfl, ?_⟩) ?_
                  rotate_left 1
                  · (intro w; go_simp; try with_reducible rfl)
                  refine wpAny_take (i := 8) (v := ?_) rfl (by kernel_rfl) (by kernel_rfl) (by kernel_rfl) (fun _ _ _ h => nomatch h.1) (Or.inl ⟨by rfl, ?_⟩) ?_
                  rotate_left 1
                  · (intro w; go_simp; try with_reducible rfl)
                  refine wpAny_ready (rs := [9]) (by kernel_rfl) (by simp) ?_
                  refine AllReady.cons rfl (fun K hK => ?_) ?_
                  · go_simp
                    refine hK _ _ ?_
                    clear hK K
                    refine wpAny_done (by kernel_rfl) ?_ _
                    exact ⟨rfl, _, _, _, _, _, _, _, _, _, _, _, _, rfl, HL.out⟩
                  exact AllReady.nil
                exact AllReady.nil
              exact AllReady.nil
            refine AllReady.cons rfl (fun K hK => ?_) ?_
            · go_simp
              refine hK _ _ ?_
              clear hK K
              refine wpAny_ready (rs := [0, 6]) (by kernel_rfl) (by simp) ?_
              refine AllReady.cons rfl (fun K hK => ?_) ?_
              · go_simp
                refine hK _ _ ?_
                clear hK K
                refine wpAny_ready (rs := [6]) (by kernel_rfl) (by simp) ?_
                refine AllReady.cons rfl (fun K hK => ?_) ?_
                · refine step_append_lies (W.drew.alloc (.cells #[.int .u8 0] 5)) rfl (.tmp 22) (.tmp 23) 29 rfl (g + 1) 5 i0 (.int .u8 0) 1 1 Tryz.underlying29 hi hz0 hz1 hz2 rfl (by decide) v (L / 8) _ rfl (HR.out.alloc _) ⟨W.heap.size, 0, none⟩ 1 1 [.int .u8 0] rfl rfl (cell_one_new _ _ _) (by simp [Value.oneCell']) (by decide) (by simp only [maxLen]; omega) (by omega) (by simp; omega) _ rfl ?_
                  intro r c X hown' hgrow hat hlt'
                  obtain ⟨HL, hd0, hd1, hdx⟩ := HH r c X hown' hgrow hat
                  clear hown' hgrow hat
                  try go_simp
                  refine hK _ _ ?_
                  clear hK K
                  refine wpAny_take (i := 7) (v := ?_) rfl (by kernel_rfl) (by kernel_rfl) (by kernel_rfl) (fun _ _ _ h => nomatch h.1) (Or.inl ⟨by rfl, ?_⟩) ?_
                  rotate_left 1
                  · (intro w; go_simp; try with_reducible rfl)
                  refine wpAny_take (i := 8) (v := ?_) rfl (by kernel_rfl) (by kernel_rfl) (by kernel_rfl) (fun _ _ _ h => nomatch h.1) (Or.inl ⟨by rfl, ?_⟩) ?_
                  rotate_left 1
                  · (intro w; go_simp; try with_reducible rfl)
                  refine wpAny_ready (rs := [9]) (by kernel_rfl) (by simp) ?_
                  refine AllReady.cons rfl (fun K hK => ?_) ?_
                  · go_simp
                    refine hK _ _ ?_
                    clear hK K
                    refine wpAny_done (by kernel_rfl) ?_ _
                    exact ⟨rfl, _, _, _, _, _, _, _, _, _, _, _, _, rfl, HL.out⟩
                  exact AllReady.nil
                exact AllReady.nil
              refine AllReady.cons rfl (fun K hK => ?_) ?_
              · refine step_append_lies (W.drew.alloc (.cells #[.int .u8 0] 5)) rfl (.tmp 22) (.tmp 23) 29 rfl (g + 1) 5 i0 (.int .u8 0) 1 1 Tryz.underlying29 hi hz0 hz1 hz2 rfl (by decide) v (L / 8) _ rfl (HR.out.alloc _) ⟨W.heap.size, 0, none⟩ 1 1 [.int .u8 0] rfl rfl (cell_one_new _ _ _) (by simp [Value.oneCell']) (by decide) (by simp only [maxLen]; omega) (by omega) (by simp; omega) _ rfl ?_
                intro r c X hown' hgrow hat hlt'
                obtain ⟨HL, hd0, hd1, hdx⟩ := HH r c X hown' hgrow hat
                clear hown' hgrow hat
                try go_simp
                refine hK _ _ ?_
                clear hK K
                refine wpAny_ready (rs := [0]) (by kernel_rfl) (by simp) ?_
                refine AllReady.cons rfl (fun K hK => ?_) ?_
                · go_simp
                  refine hK _ _ ?_
                  clear hK K
                  refine wpAny_take (i := 7) (v := ?_) rfl (by kernel_rfl) (by kernel_rfl) (by kernel_rfl) (fun _ _ _ h => nomatch h.1) (Or.inl ⟨by rfl, ?_⟩) ?_
                  rotate_left 1
                  · (intro w; go_simp; try with_reducible rfl)
                  refine wpAny_take (i := 8) (v := ?_) rfl (by kernel_rfl) (by kernel_rfl) (by kernel_rfl) (fun _ _ _ h => nomatch h.1) (Or.inl ⟨by rfl, ?_⟩) ?_
                  rotate_left 1
                  · (intro w; go_simp; try with_reducible rfl)
                  refine wpAny_ready (rs := [9]) (by kernel_rfl) (by simp) ?_
                  refine AllReady.cons rfl (fun K hK => ?_) ?_
                  · go_simp
                    refine hK _ _ ?_
                    clear hK K
                    refine wpAny_done (by kernel_rfl) ?_ _
                    exact ⟨rfl, _, _, _, _, _, _, _, _, _, _, _, _, rfl, HL.out⟩
                  exact AllReady.nil
                exact AllReady.nil
              exact AllReady.nil
            exact AllReady.nil
          exact AllReady.nil
        exact AllReady.nil
      case post =>
        rintro a' X ⟨B, t18, t19, t20, t21, t22, t23, t24, t25, t26, r, c, rfl, hb, hrow, hbx, hat, hf⟩
        have c0 := hb.cell 0
        have c1 := hb.cell 1
        have cx := hbx.cell 0
        simp only [List.getElem?_toArray, List.getElem?_cons_zero, List.getElem?_cons_succ] at c0 c1 cx
        have fr := hb.free 1
        have cr : X.cell? ⟨r, L / 8, none⟩ = some (.int .u8 (by8 (bs ++ pre) (L / 8) : Nat)) := by
          rw [hrow.cellAt (L / 8) (by omega)]
          simp [pk, bv]
        have ff := hrow.frozenAt (L / 8)
        have hLl : L ≤ 1000064 := by
          have := inn_le x
          rw [List.length_append] at hL
          omega
        have e1 : IntKind.i64.wrap ((L : Int) / 8) = ((L / 8 : Nat) : Int) := by rw [IntWalk.i64_in _ (by omega)]; simp
        have e3 : IntKind.i64.wrap (7 - (L : Int) % 8) = ((7 - L % 8 : Nat) : Int) := by rw [IntWalk.i64_in _ (by omega)]; omega
        have e4 : IntKind.i64.wrap (7 - (L : Int).tmod 8) = ((7 - L % 8 : Nat) : Int) := by rw [Int.tmod_eq_emod_of_nonneg (by omega)]; exact e3
        obtain ⟨q, hqL⟩ : ∃ q, L / 8 = q := ⟨_, rfl⟩
        obtain ⟨k, hkL⟩ : ∃ k, 7 - L % 8 = k := ⟨_, rfl⟩
        obtain ⟨cy, hcy⟩ : ∃ cy : Nat, (if y then 1 else 0) = cy := ⟨_, rfl⟩
        have hby : bt y = .int .u8 cy := by unfold bt; rw [← hcy]; split <;> rfl
        rw [hqL] at cr ff hrow e1 c0 hb
        rw [hkL] at e3 e4
        have hk7 : k ≤ 7 := by omega
        have hcy1 : cy ≤ 1 := by rw [← hcy]; split <;> omega
        have hlt8 : cy * 2 ^ k < 256 := by
          have : 2 ^ k ≤ 2 ^ 7 := Nat.pow_le_pow_right (by decide) hk7
          have : cy * 2 ^ k ≤ 1 * 2 ^ k := Nat.mul_le_mul_right _ hcy1
          omega
        obtain ⟨sh, hsh⟩ : ∃ sh, cy * 2 ^ k = sh := ⟨_, rfl⟩
        obtain ⟨nb, hnb⟩ : ∃ nb, by8 (bs ++ (pre ++ [y])) q = nb := ⟨_, rfl⟩
        rw [hsh] at hlt8
        have e5b : IntKind.u8.wrap ((cy : Int) * 2 ^ k) = (sh : Int) := by
          rw [IntKind.wrap_u8]
          have : ((cy : Int) * 2 ^ k) = ((cy * 2 ^ k : Nat) : Int) := by simp
          rw [this, hsh]; omega
        have e5 : IntKind.u8.wrap ((cy : Int) * 2 ^ min k 8) = (sh : Int) := by
          rw [Nat.min_eq_left (by omega)]; exact e5b
        have e6 : bits .or .u8 ((by8 (bs ++ pre) q : Nat) : Int) (sh : Int) = (nb : Int) := by
          rw [or_u8_nat _ _ (by8_lt _ _) hlt8, ← hnb, ← List.append_assoc, ← hqL, ← hL, ← hsh]
          rw [or_here (bs ++ pre) k (by rw [hL]; exact hkL) y cy hcy]
        have HSH := Lib.hid hsh
        have HNB := Lib.hid hnb
        clear hsh hnb hlt8
        have hi1 : (q : Int) < (q : Int) + 1 := by omega
        have HQ := Lib.hid hqL
        have HK := Lib.hid hkL
        have HC := Lib.hid hcy
        clear hqL hkL hcy
        have HB := Lib.hid hb
        have HR := Lib.hid hrow
        have HX := Lib.hid hbx
        have HF := Lib.hid hf
        have HA := Lib.hid hat
        have HO := Lib.hid hown
        have HX0 := Lib.hid hbox
        have HW : Hid (∀ k, v0.ownBlock = some k → k < w.heap.size) := Lib.hid (fun k e => by
          rcases hw.row.2 with ⟨hv, _⟩ | ⟨g', cap, cur, hv, hb, hh, _⟩
          · subst hv; cases e
          · subst hv; injection e with e
            have := (Array.getElem?_eq_some_iff.1 hh).1
            simp at e; omega)
        clear hbox hb hrow hbx hf hat hown hw bX bX2 b2 b3 s0 f1 f2 f3 hw2 hw1
        gi_wp2
        refine wpIn_round_tail 21 (by kernel_rfl) (by kernel_rfl) (by kernel_rfl) ?_
        simp only [List.take_succ_cons, List.take_zero, List.drop_succ_cons, List.drop_zero]
        repeat still_step
        refine wpStill_nil ?_
        obtain ⟨Y, hY⟩ : ∃ Y, (X.setCell ⟨r, q, none⟩ (.int .u8 (nb : Int))).drew = Y := ⟨_, rfl⟩
        go_wp2
        refine plainQ.mk ?_
        simp only [Exit.then]
        have hrg : g + 1 ≤ r := by
          rcases HR.out.2 with ⟨hv, _⟩ | ⟨g', cap, cur, hv, hb, _⟩
          · cases hv
          · injection hv with hv; injection hv with hv; injection hv with hv; subst hv; exact hb
        have hst : Y.ownsRow (g + 1) 5 1 (.slice (some ⟨r, 0, none⟩) (q + 1) c) (q + 1) (((pk (bs ++ pre) (q + 1)).map bv).set q (.int .u8 (nb : Int))) ∧ X.grownBy Y (some r) := by
          rw [← hY]
          have h := World.ownsRow.stored (w := X) HR.out q (.int .u8 (nb : Int))
          exact ⟨h.1, ⟨h.2.os, h.2.tape, h.2.output, h.2.size, h.2.block⟩⟩
        have hbY : Blk Y g 108 #[.slice (some ⟨r, 0, none⟩) (q + 1) c, .int .i64 L] := hst.2.block g HB.out.lt (by simp; omega) |>.trans HB.out
        have hxr : w.heap.size ≠ r := by
          intro e
          rcases HA.out with h | h
          · rcases HO.out with h2 | h2
            · have := HW.out; rw [h2] at h; have := this r h; omega
            · have := h2 _ h; omega
          · have := HX0.out.lt; omega
        have hxY : Blk Y w.heap.size 106 #[.pointer (some ⟨g, 0, none⟩)] := hst.2.block w.heap.size HX.out.lt (by simp; exact hxr) |>.trans HX.out
        have d1 := hbY.cell 1
        have dx := hxY.cell 0
        simp only [List.getElem?_toArray, List.getElem?_cons_zero, List.getElem?_cons_succ] at d1 dx
        have df := hbY.free 1
        have e7 : IntKind.i64.wrap ((L : Int) + 1) = ((L + 1 : Nat) : Int) := IntWalk.i64_in _ (by omega)
        have HY1 := Lib.hid hst
        have HY2 := Lib.hid hbY
        have HY3 := Lib.hid hxY
        clear hst hbY hxY
        gi_wp2
        have hZ : Frm W (Y.setCell ⟨g, 1, none⟩ (.int .i64 ((L : Int) + 1))) g v.ownBlock := (HF.out.grown HY1.out.2 (by
          rcases HA.out with h | h
          · exact .inl h.symm
          · exact .inr (.inr fun j e => by cases e; exact h))).grown (World.grownBy_setCell' Y g 1 _) (.inr (.inl rfl))
        have hlo : ∀ j, w.heap.size ≤ j → j < w2.heap.size → some j ≠ v.ownBlock := fun j h1 h2 e => by
          rcases HO.out with h | h
          · rw [h] at e; have := HW.out j e.symm; omega
          · have := h j e.symm; omega
        refine ⟨hZ.keepsFrom HROW.out (by omega), hZ.kp ⟨by omega, hlo _ (by omega) (by omega)⟩ ⟨by omega, hlo _ (by omega) (by omega)⟩, .slice (some ⟨r, 0, none⟩) (q + 1) c, ⟨⟨?_, ?_⟩, HY3.out.other 1 _ (by omega), ?_, HFRM.out.trans hZ ?_, Nat.le_trans hbig hZ.size⟩⟩
        · exact (HY2.out.put 1 _).of_ (by rw [← List.append_assoc, List.length_append, hL]; simp)
        · have hlen : (bs ++ (pre ++ [y])).length = L + 1 := by rw [← List.append_assoc, List.length_append, hL]; rfl
          have hq1 : (L + 1 + 7) / 8 = q + 1 := by have := HQ.out; omega
          rw [hlen, hq1]
          have h1 := ownsRow_setCell_below HY1.out.1 (a := ⟨g, 1, none⟩) (by simp) (.int .i64 ((L : Int) + 1))
          rw [← HNB.out, ← List.append_assoc, pk_set (bs ++ pre) y q (by rw [hL]; exact HQ.out), List.append_assoc] at h1
          exact h1
        · rcases HA.out with h | h
          · rcases HO.out with h2 | h2
            · exact .inl (h2 ▸ h ▸ rfl)
            · exact .inr (fun j e => h2 j (h.trans e))
          · exact .inr (fun j e => by injection e with e; have e2 : r = j := e; omega)
        · rcases HO.out with h | h
          · exact .inl h
          · exact .inr (fun j e => by have := h j e; omega)
    · have h8 : L % 8 ≠ 0 := by
        have h : ((L : Int) % 8 == 0) = false := by assumption
        simp at h; omega
      have hq : (L + 7) / 8 = L / 8 + 1 := by omega
      rw [hL, hq] at hrow
      obtain ⟨r, c, rfl, hgr, _⟩ := hrow.form (by omega)
      have hb := hblk
      have hbx := hbox
      have HGR := Lib.hid hgr
      clear hgr
      obtain ⟨ro, hro⟩ : ∃ ro : Option Nat, ro = some r := ⟨_, rfl⟩
      have hat : ro = some r ∨ W.heap.size ≤ r := .inl hro
      replace hown : ro = v0.ownBlock ∨ ∀ k, ro = some k → w2.heap.size ≤ k := by rw [hro]; exact hown
      have HRO := Lib.hid hro
      clear hro
      have hf := Frm.refl W g ro
      clear hc0 hc1 hx0
      have c0 := hb.cell 0
      have c1 := hb.cell 1
      have cx := hbx.cell 0
      simp only [List.getElem?_toArray, List.getElem?_cons_zero, List.getElem?_cons_succ] at c0 c1 cx
      have fr := hb.free 1
      have cr : W.cell? ⟨r, L / 8, none⟩ = some (.int .u8 (by8 (bs ++ pre) (L / 8) : Nat)) := by
        rw [hrow.cellAt (L / 8) (by omega)]
        simp [pk, bv]
      have ff := hrow.frozenAt (L / 8)
      have hLl : L ≤ 1000064 := by
        have := inn_le x
        rw [List.length_append] at hL
        omega
      have e1 : IntKind.i64.wrap ((L : Int) / 8) = ((L / 8 : Nat) : Int) := by rw [IntWalk.i64_in _ (by omega)]; simp
      have e3 : IntKind.i64.wrap (7 - (L : Int) % 8) = ((7 - L % 8 : Nat) : Int) := by rw [IntWalk.i64_in _ (by omega)]; omega
      have e4 : IntKind.i64.wrap (7 - (L : Int).tmod 8) = ((7 - L % 8 : Nat) : Int) := by rw [Int.tmod_eq_emod_of_nonneg (by omega)]; exact e3
      obtain ⟨q, hqL⟩ : ∃ q, L / 8 = q := ⟨_, rfl⟩
      obtain ⟨k, hkL⟩ : ∃ k, 7 - L % 8 = k := ⟨_, rfl⟩
      obtain ⟨cy, hcy⟩ : ∃ cy : Nat, (if y then 1 else 0) = cy := ⟨_, rfl⟩
      have hby : bt y = .int .u8 cy := by unfold bt; rw [← hcy]; split <;> rfl
      rw [hqL] at cr ff hrow e1 c0 hb
      rw [hkL] at e3 e4
      have hk7 : k ≤ 7 := by omega
      have hcy1 : cy ≤ 1 := by rw [← hcy]; split <;> omega
      have hlt8 : cy * 2 ^ k < 256 := by
        have : 2 ^ k ≤ 2 ^ 7 := Nat.pow_le_pow_right (by decide) hk7
        have : cy * 2 ^ k ≤ 1 * 2 ^ k := Nat.mul_le_mul_right _ hcy1
        omega
      obtain ⟨sh, hsh⟩ : ∃ sh, cy * 2 ^ k = sh := ⟨_, rfl⟩
      obtain ⟨nb, hnb⟩ : ∃ nb, by8 (bs ++ (pre ++ [y])) q = nb := ⟨_, rfl⟩
      rw [hsh] at hlt8
      have e5b : IntKind.u8.wrap ((cy : Int) * 2 ^ k) = (sh : Int) := by
        rw [IntKind.wrap_u8]
        have : ((cy : Int) * 2 ^ k) = ((cy * 2 ^ k : Nat) : Int) := by simp
        rw [this, hsh]; omega
      have e5 : IntKind.u8.wrap ((cy : Int) * 2 ^ min k 8) = (sh : Int) := by
        rw [Nat.min_eq_left (by omega)]; exact e5b
      have e6 : bits .or .u8 ((by8 (bs ++ pre) q : Nat) : Int) (sh : Int) = (nb : Int) := by
        rw [or_u8_nat _ _ (by8_lt _ _) hlt8, ← hnb, ← List.append_assoc, ← hqL, ← hL, ← hsh]
        rw [or_here (bs ++ pre) k (by rw [hL]; exact hkL) y cy hcy]
      have HSH := Lib.hid hsh
      have HNB := Lib.hid hnb
      clear hsh hnb hlt8
      have hi1 : (q : Int) < (q : Int) + 1 := by omega
      have HQ := Lib.hid hqL
      have HK := Lib.hid hkL
      have HC := Lib.hid hcy
      clear hqL hkL hcy
      have HB := Lib.hid hb
      have HR := Lib.hid hrow
      have HX := Lib.hid hbx
      have HF := Lib.hid hf
      have HA := Lib.hid hat
      have HO := Lib.hid hown
      have HX0 := Lib.hid hbox
      have HW : Hid (∀ k, v0.ownBlock = some k → k < w.heap.size) := Lib.hid (fun k e => by
        rcases hw.row.2 with ⟨hv, _⟩ | ⟨g', cap, cur, hv, hb, hh, _⟩
        · subst hv; cases e
        · subst hv; injection e with e
          have := (Array.getElem?_eq_some_iff.1 hh).1
          simp at e; omega)
      clear hbox hb hrow hbx hf hat hown hw bX bX2 b2 b3 s0 f1 f2 f3 hw2 hw1
      gi_wp2
      refine wpIn_round_tail 21 (by kernel_rfl) (by kernel_rfl) (by kernel_rfl) ?_
      simp only [List.take_succ_cons, List.take_zero, List.drop_succ_cons, List.drop_zero]
      repeat still_step
      refine wpStill_nil ?_
      obtain ⟨Y, hY⟩ : ∃ Y, (W.setCell ⟨r, q, none⟩ (.int .u8 (nb : Int))).drew = Y := ⟨_, rfl⟩
      go_wp2
      refine plainQ.mk ?_
      simp only [Exit.then]
      have hrg : g + 1 ≤ r := HGR.out
      have hst : Y.ownsRow (g + 1) 5 1 (.slice (some ⟨r, 0, none⟩) (q + 1) c) (q + 1) (((pk (bs ++ pre) (q + 1)).map bv).set q (.int .u8 (nb : Int))) ∧ W.grownBy Y (some r) := by
        rw [← hY]
        have h := World.ownsRow.stored (w := W) HR.out q (.int .u8 (nb : Int))
        exact ⟨h.1, ⟨h.2.os, h.2.tape, h.2.output, h.2.size, h.2.block⟩⟩
      have hbY : Blk Y g 108 #[.slice (some ⟨r, 0, none⟩) (q + 1) c, .int .i64 L] := hst.2.block g HB.out.lt (by simp; omega) |>.trans HB.out
      have hxr : w.heap.size ≠ r := by
        intro e
        rcases HA.out with h | h
        · rcases HO.out with h2 | h2
          · have := HW.out; rw [h2] at h; have := this r h; omega
          · have := h2 _ h; omega
        · have := HX0.out.lt; omega
      have hxY : Blk Y w.heap.size 106 #[.pointer (some ⟨g, 0, none⟩)] := hst.2.block w.heap.size HX.out.lt (by simp; exact hxr) |>.trans HX.out
      have d1 := hbY.cell 1
      have dx := hxY.cell 0
      simp only [List.getElem?_toArray, List.getElem?_cons_zero, List.getElem?_cons_succ] at d1 dx
      have df := hbY.free 1
      have e7 : IntKind.i64.wrap ((L : Int) + 1) = ((L + 1 : Nat) : Int) := IntWalk.i64_in _ (by omega)
      have HY1 := Lib.hid hst
      have HY2 := Lib.hid hbY
      have HY3 := Lib.hid hxY
      clear hst hbY hxY
      gi_wp2
      have hZ : Frm W (Y.setCell ⟨g, 1, none⟩ (.int .i64 ((L : Int) + 1))) g ro := (HF.out.grown HY1.out.2 (by
        rcases HA.out with h | h
        · exact .inl h.symm
        · exact .inr (.inr fun j e => by cases e; exact h))).grown (World.grownBy_setCell' Y g 1 _) (.inr (.inl rfl))
      have hlo : ∀ j, w.heap.size ≤ j → j < w2.heap.size → some j ≠ ro := fun j h1 h2 e => by
        rcases HO.out with h | h
        · rw [h] at e; have := HW.out j e.symm; omega
        · have := h j e.symm; omega
      refine ⟨Frm.keepsFrom (v := .slice (some ⟨r, 0, none⟩) (L / 8 + 1) c) (HRO.out ▸ hZ) HROW.out (by omega), hZ.kp ⟨by omega, hlo _ (by omega) (by omega)⟩ ⟨by omega, hlo _ (by omega) (by omega)⟩, .slice (some ⟨r, 0, none⟩) (q + 1) c, ⟨⟨?_, ?_⟩, HY3.out.other 1 _ (by omega), ?_, HFRM.out.trans hZ ?_, Nat.le_trans hbig hZ.size⟩⟩
      · exact (HY2.out.put 1 _).of_ (by rw [← List.append_assoc, List.length_append, hL]; simp)
      · have hlen : (bs ++ (pre ++ [y])).length = L + 1 := by rw [← List.append_assoc, List.length_append, hL]; rfl
        have hq1 : (L + 1 + 7) / 8 = q + 1 := by have := HQ.out; omega
        rw [hlen, hq1]
        have h1 := ownsRow_setCell_below HY1.out.1 (a := ⟨g, 1, none⟩) (by simp) (.int .i64 ((L : Int) + 1))
        rw [← HNB.out, ← List.append_assoc, pk_set (bs ++ pre) y q (by rw [hL]; exact HQ.out), List.append_assoc] at h1
        exact h1
      · rcases HA.out with h | h
        · rcases HO.out with h2 | h2
          · exact .inl (h2 ▸ h ▸ rfl)
          · exact .inr (fun j e => h2 j (h.trans e))
        · exact .inr (fun j e => by injection e with e; have e2 : r = j := e; omega)
      · rcases HO.out with h | h
        · exact .inl h
        · exact .inr (fun j e => by have := h j e; omega)
  case done =>
    rintro D ys W hD rfl ⟨v, hS⟩ hK
    gi_wp2
    refine ⟨by simp, .inl ⟨_, _, rfl, run_takeDeferred hK, ?_⟩⟩
    have hE := hS.kept (grownBy_putObj' W D (.deferred none)) (by omega) (fun r e => by cases e; exact ⟨hD, _, hK, rfl⟩)
    exact ⟨_, results_none rfl _ _ _, rfl, v, hE.wr, hE.row.imp id (fun h k e => by have := h k e; omega), hE.frm⟩
  case stop =>
    rintro D c pre W _ _ h _
    exact h.elim
end Go.Proofs.YtbilegkffooioaaGreatDoor
namespace Go.Proofs.YtbilegkffooioaaGreatDoor
open Go.RowKit

theorem within_calls (x : Int) (w : World) : Calls Tryz.prog 179 #[.int .i64 x] w fun e w' => e = .returned (.int .i64 (inn x)) ∧ w = w' :=
  (callsIn_wide (n := 3)).1 ((within_in 3 x w).mono fun _ _ h => ⟨h.1, h.2.symm⟩)
theorem put_calls (g N : Nat) (x : Int) (hN : N < 18446744073709551616) (bs : List Bool) (hl : bs.length ≤ 1000000) (v0 : Value) (w : World) (hw : Wr w g bs v0) :
    Calls Tryz.prog 105 #[.pointer (some ⟨g, 0, none⟩), .int .u64 N, .int .i64 x] w fun e w' => e = .returned (.tuple #[]) ∧
      ∃ v, Wr w' g (bs ++ hb N (inn x)) v ∧ (v.ownBlock = v0.ownBlock ∨ ∀ k, v.ownBlock = some k → w.heap.size ≤ k) ∧ Frm w w' g v0.ownBlock :=
  callsIn_wide.1 (put_in g N x hN bs hl v0 w hw)

theorem rd_new (w : World) : Rd w w.heap.size none 0 [] := ⟨rfl, fun h => absurd h (by decide)⟩

theorem eql_nil_slice (P : Program) (w : World) (t e : TypeId) (a : Option Addr) (l c : Nat) (h : P.underlying t = some (.slice e)) : (binOp .eql t (.slice a l c) (.slice none 0 0)).run P w = .ok (.bool a.isNone) w := by
  simp only [binOp]
  simp [run_equal_slice_nil w t e a l c h]

theorem grown_over {a b c : World} {k : Nat} (h : a.grownBy b none) (j : b.grownBy c (some k)) (hk : a.heap.size ≤ k) : a.grownBy c none :=
  ⟨j.os.trans h.os, j.tape.trans h.tape, j.output.trans h.output, Nat.le_trans h.size j.size, fun i hi _ => (j.block i (Nat.lt_of_lt_of_le hi h.size) (by intro e; injection e with e; omega)).trans (h.block i hi (by simp))⟩

/-- **slices.Clone** of bytes. -/
theorem clone_calls (B n c : Nat) (A : Option Addr) (l : List Nat) (hn : n ≤ 1000000) (w : World) (h : Rd w B A n (l.map bv)) (hB : B ≤ w.heap.size) :
    Calls Tryz.prog 69 #[.slice A n c] w fun e w' => ∃ A' c', e = .returned (.slice A' n c') ∧ w'.ownsRow w.heap.size 5 1 (.slice A' n c') n (l.map bv) ∧ w.grownBy w' none := by
  rcases A with _ | A
  · have h0 : n = 0 := by
      rcases Nat.eq_zero_or_pos n with h0 | h0
      · exact h0
      · obtain ⟨b, off, e, _⟩ := h.2 h0; cases e
    subst h0
    have hl : l = [] := List.map_eq_nil_iff.1 (List.eq_nil_of_length_eq_zero h.1)
    subst hl
    have kn : ∀ w' : World, (binOp .eql 29 (.slice none 0 c) (.slice none 0 0)).run Tryz.prog w' = .ok (.bool true) w' := fun w' => eql_nil_slice Tryz.prog w' 29 5 none 0 c Tryz.underlying29
    go_enter Tryz.func69, Tryz.ntmps69
    go_wp2
    go_ret
    exact ⟨_, _, rfl, World.ownsRow_nil w w.heap.size 5 1, World.grownBy.refl w _⟩
  · have hR : Hid (Rd w B (some A) n (l.map bv)) := Lib.hid h
    clear h
    have kn : ∀ w' : World, (binOp .eql 29 (.slice (some A) n c) (.slice none 0 0)).run Tryz.prog w' = .ok (.bool false) w' := fun w' => eql_nil_slice Tryz.prog w' 29 5 (some A) n c Tryz.underlying29
    go_enter Tryz.func69, Tryz.ntmps69
    go_wp2_with (at_builtin; refine wpList_append_rd _ rfl (.tmp 5) (.tmp 6) 29 rfl w.heap.size 5 (.int .u8 0) 1 Tryz.underlying29 Tryz.info5 rfl _ 0 [] rfl (World.ownsRow_lit w #[] 0 (Nat.le_refl _) (by decide) rfl) B (some A) n c (l.map bv) rfl (hR.out.keep fun p hp => World.cell?_of_block (Below.heap_alloc w _ _ (by omega))) (bv_one _) n (by omega) _ (List.nil_append _) (by simp only [maxLen]; omega) (by omega) (by simp) ?_; intro A' c' w2 hown hgrow hrd; have H1 := Lib.hid hown; have H2 := Lib.hid hgrow; clear hown hgrow hrd)
    go_ret
    exact ⟨_, _, rfl, H1.out, grown_over (World.grownBy_alloc w _ none) H2.out (Nat.le_refl _)⟩

/-- **Bytes** of a writer. -/
theorem bytes_calls (g : Nat) (bs : List Bool) (hl : bs.length ≤ 1000000) (v : Value) (w : World) (hw : Wr w g bs v) :
    Calls Tryz.prog 46 #[.pointer (some ⟨g, 0, none⟩)] w fun e w' => ∃ A' c', e = .returned (.slice A' ((bs.length + 7) / 8) c') ∧ w'.ownsRow w.heap.size 5 1 (.slice A' ((bs.length + 7) / 8) c') ((bs.length + 7) / 8) ((pk bs ((bs.length + 7) / 8)).map bv) ∧ w.grownBy w' none := by
  obtain ⟨A, c, rfl, hr⟩ := own_shape hw.row
  have hc := hw.blk.cell 0
  simp only [List.getElem?_toArray, List.getElem?_cons_zero] at hc
  have HR := Lib.hid hr
  clear hr hw
  go_enter Tryz.func46, Tryz.ntmps46
  go_wp2_with (go_at_call 69; refine (clone_calls w.heap.size _ c A _ (by omega) w HR.out (Nat.le_refl _)).mono ?_; rintro e w1 ⟨A', c', rfl, h1, h2⟩; have H1 := Lib.hid h1; have H2 := Lib.hid h2; clear h1 h2)
  go_ret
  exact ⟨A', c', rfl, H1.out, H2.out⟩

/-- Block g is a reader of these bytes, at this bit. -/
structure Rr (w : World) (g : Nat) (l : List Nat) (at_ : Nat) : Prop where
  row : ∃ A c, Blk w g 207 #[.slice A l.length c, .int .i64 at_] ∧ Rd w g A l.length (l.map bv)
  small : ∀ x ∈ l, x < 256
  at_le : at_ ≤ 8 * l.length
  len : l.length ≤ 100000

theorem Rr.keep {w w' : World} {g : Nat} {l : List Nat} {a : Nat} (h : Rr w g l a) (hk : ∀ k, k ≤ g → w'.heap[k]? = w.heap[k]?) : Rr w' g l a := by
  obtain ⟨⟨A, c, hb, hr⟩, h2, h3, h4⟩ := h
  exact ⟨⟨A, c, (hk g (Nat.le_refl _)).trans hb, hr.keep fun p hp => World.cell?_of_block (hk _ (by omega))⟩, h2, h3, h4⟩
theorem Rr.lt {w : World} {g : Nat} {l : List Nat} {a : Nat} (h : Rr w g l a) : g < w.heap.size := by
  obtain ⟨⟨A, c, hb, hr⟩, _⟩ := h
  exact hb.lt

/-- **NewReader.** -/
theorem newReader_calls (B n c : Nat) (A : Option Addr) (l : List Nat) (hn : n ≤ 100000) (hx : ∀ x ∈ l, x < 256) (w : World) (h : Rd w B A n (l.map bv)) (hB : B ≤ w.heap.size) :
    Calls Tryz.prog 47 #[.slice A n c] w fun e w' => ∃ g, e = .returned (.pointer (some ⟨g, 0, none⟩)) ∧ Rr w' g l 0 ∧ w.heap.size ≤ g ∧ w.grownBy w' none := by
  have HR := Lib.hid h
  have hln : l.length = n := by simpa using h.1
  clear h
  go_enter Tryz.func47, Tryz.ntmps47
  go_wp2_with (go_at_call 69; refine (clone_calls B n c A l (by omega) w HR.out hB).mono ?_; rintro e w1 ⟨A', c', rfl, h1, h2⟩; have H1 := Lib.hid h1; have H2 := Lib.hid h2; clear h1 h2)
  go_ret
  refine ⟨_, rfl, ⟨⟨A', c', by rw [hln]; exact Blk.new w1 207 _, ?_⟩, hx, by simp, by omega⟩, H2.out.size, only_trans H2.out (World.grownBy_alloc w1 _ none)⟩
  have hr := rd_of_own H1.out
  rw [hln]
  exact hr.keep fun p hp => World.cell?_of_block (Below.heap_alloc w1 _ _ hp)

end Go.Proofs.YtbilegkffooioaaGreatDoor
namespace Go.Proofs.YtbilegkffooioaaGreatDoor
open Go.RowKit

/-- Bit k of bytes. -/
def obit (l : List Nat) (k : Nat) : Nat := l.getD (k / 8) 0 / 2 ^ (7 - k % 8) % 2
/-- n bits from a on, as a number. -/
def num (l : List Nat) (a : Nat) : Nat → Nat
  | 0 => 0
  | n + 1 => num l a n * 2 + obit l (a + n)
theorem obit_le (l : List Nat) (k : Nat) : obit l k ≤ 1 := by unfold obit; omega
theorem num_lt (l : List Nat) (a n : Nat) : num l a n < 2 ^ n := by
  induction n with
  | zero => simp [num]
  | succ n ih =>
    have := obit_le l (a + n)
    rw [num, Nat.pow_succ]; omega

/-- **left.** -/
theorem left_calls (g : Nat) (l : List Nat) (a : Nat) (w : World) (h : Rr w g l a) :
    Calls Tryz.prog 118 #[.pointer (some ⟨g, 0, none⟩)] w fun e w' => e = .returned (.int .i64 ((8 * l.length - a : Nat) : Int)) ∧ ∃ n, w' = w.drewN n := by
  obtain ⟨⟨A, c, hb, _⟩, _, ha, hl⟩ := h
  have c0 := hb.cell 0
  have c1 := hb.cell 1
  simp only [List.getElem?_toArray, List.getElem?_cons_zero, List.getElem?_cons_succ] at c0 c1
  have e1 : IntKind.i64.wrap ((l.length : Int) * 8) = (l.length : Int) * 8 := IntWalk.i64_in _ (by omega)
  have e2 : IntKind.i64.wrap ((l.length : Int) * 8 - a) = ((8 * l.length - a : Nat) : Int) := by rw [IntWalk.i64_in _ (by omega)]; omega
  obtain ⟨k, hk⟩ : ∃ k, 8 * l.length - a = k := ⟨_, rfl⟩
  rw [hk] at e2 ⊢
  clear hb ha hl hk
  go_enter Tryz.func118, Tryz.ntmps118
  go_wp2_with fail
  go_quiet (fail)
  go_wp2
  go_ret
  exact ⟨rfl, _, rfl⟩

/-- **bit.** -/
theorem bit_calls (g : Nat) (l : List Nat) (a k : Nat) (w : World) (h : Rr w g l a) (hk : k < 8 * l.length) :
    Calls Tryz.prog 117 #[.pointer (some ⟨g, 0, none⟩), .int .i64 k] w fun e w' => e = .returned (.int .u64 (obit l k : Nat)) ∧ w = w' := by
  obtain ⟨⟨A, c, hb, hr⟩, hs, ha, hl⟩ := h
  have c0 := hb.cell 0
  simp only [List.getElem?_toArray, List.getElem?_cons_zero] at c0
  obtain ⟨b, off, u, rfl, hB, hu, hcell⟩ := hr.at_ (k := k / 8) (by omega)
  obtain ⟨x, hx⟩ : ∃ x, l.getD (k / 8) 0 = x := ⟨_, rfl⟩
  have hx2 : u = .int .u8 (x : Nat) := by
    have hlt : k / 8 < l.length := by omega
    rw [← hx]
    simp [hlt, bv] at hu
    simp [List.getD, hlt, ← hu]
  subst hx2
  have hx8 : x < 256 := by
    have hlt : k / 8 < l.length := by omega
    rw [← hx, List.getD_eq_getElem?_getD, List.getElem?_eq_getElem hlt]
    exact hs _ (List.getElem_mem hlt)
  have e1 : IntKind.i64.wrap ((k : Int) / 8) = ((k / 8 : Nat) : Int) := by rw [IntWalk.i64_in _ (by omega)]; simp
  have e3 : IntKind.i64.wrap (7 - (k : Int) % 8) = ((7 - k % 8 : Nat) : Int) := by rw [IntWalk.i64_in _ (by omega)]; omega
  have e4 : IntKind.i64.wrap (7 - (k : Int).tmod 8) = ((7 - k % 8 : Nat) : Int) := by rw [Int.tmod_eq_emod_of_nonneg (by omega)]; exact e3
  have ho : obit l k = x / 2 ^ (7 - k % 8) % 2 := by unfold obit; rw [hx]
  rw [ho]
  have hi0 : k / 8 < l.length := by omega
  obtain ⟨q, hq⟩ : ∃ q, k / 8 = q := ⟨_, rfl⟩
  obtain ⟨s, hs2⟩ : ∃ s, 7 - k % 8 = s := ⟨_, rfl⟩
  rw [hq] at e1 hcell hi0
  rw [hs2] at e3 e4 ⊢
  have hi1 : (q : Int) < (l.length : Int) := by omega
  have e5 : bits .and .u8 ((x : Int) / 2 ^ s) 1 = ((x / 2 ^ s % 2 : Nat) : Int) := by
    have h8 : x / 2 ^ s < 256 := Nat.lt_of_le_of_lt (Nat.div_le_self _ _) hx8
    have hd : ((x : Int) / 2 ^ s) = ((x / 2 ^ s : Nat) : Int) := by simp
    rw [hd]
    generalize x / 2 ^ s = y at *
    have := (by decide +kernel : ∀ y : Fin 256, bits .and .u8 ((y.val : Nat) : Int) 1 = ((y.val % 2 : Nat) : Int)) ⟨y, h8⟩
    exact this
  obtain ⟨y, hy⟩ : ∃ y, x / 2 ^ s % 2 = y := ⟨_, rfl⟩
  have e5b : bits .and .u8 ((x : Int) / 2 ^ min s 8) 1 = ((x / 2 ^ s % 2 : Nat) : Int) := by rw [Nat.min_eq_left (by omega)]; exact e5
  rw [hy] at e5 e5b ⊢
  have e6 : IntKind.u64.wrap (y : Int) = (y : Int) := by rw [IntKind.wrap_u64]; omega
  clear hb hr ho ha hl hy hq hs2 hx hk hu hi0
  go_enter Tryz.func117, Tryz.ntmps117
  go_wp2
  go_ret
  exact ⟨rfl, rfl⟩

theorem Rr.set {w : World} {g : Nat} {l : List Nat} {a : Nat} (h : Rr w g l a) (b : Nat) (hb : b ≤ 8 * l.length) : Rr (w.setCell ⟨g, 1, none⟩ (.int .i64 b)) g l b := by
  obtain ⟨⟨A, c, hk, hr⟩, h2, h3, h4⟩ := h
  exact ⟨⟨A, c, (hk.put 1 _).of_ (by simp), hr.keep fun p hp => World.cell?_of_block (Below.heap_setCell w ⟨g, 1, none⟩ _ _ (by simp; omega))⟩, h2, hb, h4⟩
theorem Rr.cells {w : World} {g : Nat} {l : List Nat} {a : Nat} (h : Rr w g l a) : w.cell? ⟨g, 1, none⟩ = some (.int .i64 a) ∧ w.frozen? ⟨g, 1, none⟩ = false := by
  obtain ⟨⟨A, c, hk, hr⟩, h2, h3, h4⟩ := h
  have := hk.cell 1
  exact ⟨by simpa using this, hk.free 1⟩
theorem Rr.drewN {w : World} {g : Nat} {l : List Nat} {a : Nat} (h : Rr w g l a) (n : Nat) : Rr (w.drewN n) g l a := h.keep fun _ _ => rfl
theorem Rr.drew {w : World} {g : Nat} {l : List Nat} {a : Nat} (h : Rr w g l a) : Rr w.drew g l a := h.keep fun _ _ => rfl

/-- What Get does. -/
def got (l : List Nat) (a n : Nat) : Nat × Bool × Nat := if a + n ≤ 8 * l.length then (num l a n, true, a + n) else (0, false, 8 * l.length)

theorem or_shl (m b : Nat) (hm : m * 2 < 18446744073709551616) (hb : b ≤ 1) : bits .or .u64 ((m * 2 : Nat) : Int) (b : Int) = ((m * 2 + b : Nat) : Int) := by
  rw [bits_or_u64_nat _ _ hm (by omega)]
  have := Nat.two_pow_add_eq_or_of_lt (i := 1) (b := b) (by omega) m
  rw [Nat.pow_one, Nat.mul_comm 2 m] at this
  rw [← this]

set_option maxRecDepth 100000 in
set_option maxHeartbeats 1000000 in
/-- **Get.** -/
theorem get_calls (g : Nat) (l : List Nat) (a : Nat) (x : Int) (w : World) (h : Rr w g l a) :
    Calls Tryz.prog 180 #[.pointer (some ⟨g, 0, none⟩), .int .i64 x] w fun e w' => e = .returned (.tuple #[.int .u64 ((got l a (inn x)).1 : Nat), .bool (got l a (inn x)).2.1]) ∧ Rr w' g l (got l a (inn x)).2.2 ∧ w.grownBy w' (some g) := by
  have hn := inn_le x
  obtain ⟨n, hnx⟩ : ∃ n, inn x = n := ⟨_, rfl⟩
  have hW := within_calls x w
  rw [hnx] at hW hn ⊢
  have hat := h.at_le
  have hlen := h.len
  have HW := Lib.hid hW
  have HR := Lib.hid h
  obtain ⟨k, hk⟩ : ∃ k, 8 * l.length - a = k := ⟨_, rfl⟩
  have HL1 : Hid (Calls Tryz.prog 118 #[.pointer (some ⟨g, 0, none⟩)] w fun e w' => e = .returned (.int .i64 (k : Int)) ∧ ∃ n, w' = w.drewN n) := Lib.hid (by rw [← hk]; exact left_calls g l a w h)
  have HL2 : Hid (∀ m, Calls Tryz.prog 118 #[.pointer (some ⟨g, 0, none⟩)] (w.drewN m).drew fun e w' => e = .returned (.int .i64 (k : Int)) ∧ ∃ n, w' = (w.drewN m).drew.drewN n) := Lib.hid (fun m => by rw [← hk]; exact left_calls g l a _ (h.drewN m).drew)
  obtain ⟨c1, f1⟩ := h.cells
  clear h hW hnx
  by_cases hle : a + n ≤ 8 * l.length
  · have hg : got l a n = (num l a n, true, a + n) := by unfold got; rw [if_pos hle]
    have hkn : ¬ k < n := by omega
    rw [hg]
    clear hg
    go_enter Tryz.func180, Tryz.ntmps180
    go_wp2_with (first
      | (go_at_call 179; refine HW.out.mono ?_; rintro e w1 ⟨rfl, rfl⟩)
      | (go_at_call 118; refine HL1.out.mono ?_; rintro e w1 ⟨rfl, m, rfl⟩))
    go_loopw [4, 22] (fun v i wr => ∃ k : Nat, k ≤ n ∧ v = .int .u64 (num l a k : Nat) ∧ i = .int .i64 k ∧ Rr wr g l (a + k) ∧ w.grownBy wr (some g)) (fun v i wr => n - (iv i).toNat)
    case atStart => exact ⟨0, by omega, rfl, rfl, HR.out.drewN m, only_drawn (World.grownBy.refl w _) m⟩
    case round =>
      clear hkn hk
      obtain ⟨k, hk, rfl, rfl, hr, hgr⟩ := hrel
      rcases Nat.lt_or_ge k n with hlt | hge
      · obtain ⟨c1, f1⟩ := hr.cells
        have hkn : (k : Int) < (n : Int) := by omega
        have HB := Lib.hid (bit_calls g l (a + k) (a + k) wr hr (by omega))
        obtain ⟨o, ho⟩ : ∃ o, obit l (a + k) = o := ⟨_, rfl⟩
        have ho1 : o ≤ 1 := by rw [← ho]; exact obit_le l _
        obtain ⟨m0, hm0⟩ : ∃ m0, num l a k = m0 := ⟨_, rfl⟩
        have hnum : num l a (k + 1) = m0 * 2 + o := by rw [num, hm0, ho]
        have hm63 : m0 < 9223372036854775808 := by
          have := num_lt l a k
          have hp : 2 ^ k ≤ 2 ^ 63 := Nat.pow_le_pow_right (by decide) (by omega)
          omega
        rw [hm0]
        have e1 : IntKind.u64.wrap ((m0 : Int) * 2) = ((m0 * 2 : Nat) : Int) := by rw [IntKind.wrap_u64]; omega
        have e2 : bits .or .u64 ((m0 : Int) * 2) (o : Int) = ((m0 * 2 + o : Nat) : Int) := by
          have := or_shl m0 o (by omega) ho1
          simpa using this
        obtain ⟨m1, hm1⟩ : ∃ m1, m0 * 2 + o = m1 := ⟨_, rfl⟩
        rw [hm1] at e2 hnum
        have e3 : IntKind.i64.wrap (((a + k : Nat) : Int) + 1) = ((a + k + 1 : Nat) : Int) := IntWalk.i64_in _ (by omega)
        have e4 : IntKind.i64.wrap ((k : Int) + 1) = ((k + 1 : Nat) : Int) := IntWalk.i64_in _ (by omega)
        obtain ⟨p, hp⟩ : ∃ p, a + k = p := ⟨_, rfl⟩
        rw [ho] at HB
        rw [hp] at c1 e3 HB hr
        have HR2 := Lib.hid hr
        have HG := Lib.hid hgr
        have HN := Lib.hid hnum
        have HP := Lib.hid hp
        clear hr hgr hnum hp hm1 hm0 ho
        go_wp2_with (go_at_call 117; refine HB.out.mono ?_; rintro e w1 ⟨rfl, rfl⟩)
        go_roundw
        case rel =>
          refine ⟨k + 1, hlt, by rw [HN.out], ?_, by rw [← Nat.add_assoc, HP.out]; exact HR2.out.set (p + 1) (by have := HP.out; omega), only_put HG.out 1 _⟩
          simp
        case measure => simp [iv]; omega
      · obtain rfl : k = n := by omega
        have hkn : ¬ (k : Int) < (k : Int) := by omega
        have HR2 := Lib.hid hr
        have HG := Lib.hid hgr
        clear hr hgr
        go_wp2
        go_ret2
        exact ⟨rfl, HR2.out, HG.out⟩
  · have hg : got l a n = (0, false, 8 * l.length) := by unfold got; rw [if_neg hle]
    have hkn : (k : Int) < (n : Int) := by omega
    rw [hg]
    have e1 : IntKind.i64.wrap ((a : Int) + k) = ((8 * l.length : Nat) : Int) := by rw [IntWalk.i64_in _ (by omega)]; omega
    obtain ⟨T, hT⟩ : ∃ T, 8 * l.length = T := ⟨_, rfl⟩
    rw [hT] at e1 ⊢
    have HT := Lib.hid hT
    clear hT hle hg hk
    go_enter Tryz.func180, Tryz.ntmps180
    go_wp2_with (first
      | (go_at_call 179; refine HW.out.mono ?_; rintro e w1 ⟨rfl, rfl⟩)
      | (go_at_call 118; refine HL1.out.mono ?_; rintro e w1 ⟨rfl, m, rfl⟩))
    go_region_with (go_at_call 118; refine (HL2.out m).mono ?_; rintro e w1 ⟨rfl, m2, rfl⟩)
    all_goals go_wp2
    all_goals go_ret2
    all_goals exact ⟨rfl, by rw [← HT.out]; exact (HR.out.drewN _).set (8 * l.length) (Nat.le_refl _), only_put (only_drawn (World.grownBy.refl w _) _) 1 _⟩
end Go.Proofs.YtbilegkffooioaaGreatDoor
namespace Go.Proofs.YtbilegkffooioaaGreatDoor
open Go.RowKit

/-- What Rest tells. -/
def restB (l : List Nat) (a : Nat) : Bool := ((List.range (8 * l.length - a)).all fun i => obit l (a + i) == 0) && decide (8 * l.length - a < 8)

set_option maxHeartbeats 1000000 in
/-- **Rest.** -/
theorem rest_calls (g : Nat) (l : List Nat) (a : Nat) (w : World) (h : Rr w g l a) :
    Calls Tryz.prog 54 #[.pointer (some ⟨g, 0, none⟩)] w fun e w' => e = .returned (.bool (restB l a)) ∧ ∃ n, w' = w.drewN n := by
  have hat := h.at_le
  have hlen := h.len
  obtain ⟨k, hk⟩ : ∃ k, 8 * l.length - a = k := ⟨_, rfl⟩
  have hL := left_calls g l a w h
  have hT : ∀ j, a + j < 8 * l.length → Calls Tryz.prog 117 #[.pointer (some ⟨g, 0, none⟩), .int .i64 ((a + j : Nat) : Int)] w fun e w' => e = .returned (.int .u64 (obit l (a + j) : Nat)) ∧ w = w' := fun j hj => bit_calls g l a (a + j) w h hj
  rw [hk] at hL
  obtain ⟨B, hB⟩ : ∃ B, restB l a = B := ⟨_, rfl⟩
  have hB' : B = (((List.range k).all fun i => obit l (a + i) == 0) && decide (k < 8)) := by rw [← hB, restB, hk]
  rw [hB]
  have HB := Lib.hid hB'
  have HL := Lib.hid hL
  have HT := Lib.hid hT
  obtain ⟨⟨A, c, hb, _⟩, _, _, _⟩ := h
  have c0 := hb.cell 0
  have c1 := hb.cell 1
  simp only [List.getElem?_toArray, List.getElem?_cons_zero, List.getElem?_cons_succ] at c0 c1
  clear hB hB' hL hT hb
  go_enter Tryz.func54, Tryz.ntmps54
  go_wp2
  go_loopw [3] (fun v wr => ∃ j : Nat, j ≤ k ∧ v = .int .i64 ((a + j : Nat) : Int) ∧ wr = w ∧ Hid (∀ i, i < j → obit l (a + i) = 0)) (fun v wr => 8 * l.length - (iv v).toNat)
  case atStart => exact ⟨0, by omega, rfl, rfl, Lib.hid fun i hi => absurd hi (by omega)⟩
  case round =>
    obtain ⟨j, hj, rfl, rfl, hz⟩ := hrel
    have e0 : IntKind.i64.wrap ((l.length : Int) * 8) = ((8 * l.length : Nat) : Int) := by rw [IntWalk.i64_in _ (by omega)]; omega
    obtain ⟨T, hTT⟩ : ∃ T, 8 * l.length = T := ⟨_, rfl⟩
    obtain ⟨p, hp⟩ : ∃ p, a + j = p := ⟨_, rfl⟩
    rcases Nat.lt_or_ge (a + j) (8 * l.length) with hlt | hge
    · have HT1 := Lib.hid (HT.out j hlt)
      obtain ⟨o, ho⟩ : ∃ o, obit l (a + j) = o := ⟨_, rfl⟩
      have ho1 : o ≤ 1 := by rw [← ho]; exact obit_le l _
      rw [ho] at HT1
      rw [hp] at HT1 hlt
      rw [hTT] at e0 hlt
      have hlt2 : (p : Int) < (T : Int) := by omega
      have e3 : IntKind.i64.wrap ((p : Int) + 1) = ((p + 1 : Nat) : Int) := IntWalk.i64_in _ (by omega)
      rw [hp]
      have HO := Lib.hid ho
      have HP := Lib.hid hp
      have HTT := Lib.hid hTT
      clear ho hp hTT
      rcases (by omega : o = 0 ∨ o = 1) with rfl | rfl
      · go_wp2_with (go_at_call 117; refine HT1.out.mono ?_; rintro e w1 ⟨rfl, rfl⟩)
        go_roundw
        case rel => exact ⟨j + 1, by have := HP.out; have := HTT.out; omega, by have := HP.out; rw [← Nat.add_assoc, this]; simp, trivial, Lib.hid fun i hi => by
          rcases Nat.lt_or_ge i j with h | h
          · exact hz.out i h
          · rw [show i = j by omega]; exact HO.out⟩
        case measure => have := HP.out; have := HTT.out; simp [iv]; omega
      · go_wp2_with (go_at_call 117; refine HT1.out.mono ?_; rintro e w1 ⟨rfl, rfl⟩)
        go_ret
        refine ⟨ret_bool ?_, 0, rfl⟩
        rw [HB.out]
        symm
        rw [Bool.and_eq_false_iff]
        left
        rw [List.all_eq_false]
        exact ⟨j, by simp; have := HP.out; have := HTT.out; omega, by rw [HO.out]; decide⟩
    · have hlt2 : ¬ (p : Int) < (T : Int) := by omega
      rw [hTT] at e0
      rw [hp]
      have HP := Lib.hid hp
      have HTT := Lib.hid hTT
      have hall : Hid (((List.range k).all fun i => obit l (a + i) == 0) = true) := Lib.hid (by
        rw [List.all_eq_true]
        intro i hi
        have hi := List.mem_range.1 hi
        rw [hz.out i (by omega)]; rfl)
      have HB2 : Hid (B = decide (k < 8)) := Lib.hid (by rw [HB.out, hall.out]; simp)
      clear hp hTT hge hj hk hat
      go_wp2_with (go_at_call 118; refine HL.out.mono ?_; rintro e w1 ⟨rfl, n, rfl⟩)
      go_ret
      exact ⟨ret_bool (by rw [HB2.out]; exact decide_eq_decide.2 (by omega)), n, rfl⟩

theorem sgn_walk (v n : Nat) (hn : n ≤ 64) (hv : v < 2 ^ n) : IntKind.i64.wrap (IntKind.u64.wrap ((v : Int) * 2 ^ (64 - n))) / 2 ^ (64 - n) = if 2 * v < 2 ^ n then (v : Int) else (v : Int) - 2 ^ n := by
  obtain ⟨b, hb⟩ : ∃ b, 64 - n = b := ⟨_, rfl⟩
  rw [hb]
  have hp : 2 ^ n * 2 ^ b = 18446744073709551616 := by rw [← Nat.pow_add, show n + b = 64 by omega]
  have h0 : 0 < 2 ^ b := Nat.two_pow_pos b
  have e : ((v : Int) * 2 ^ b) = ((v * 2 ^ b : Nat) : Int) := by simp
  have e2 : ((2 : Int) ^ b) = ((2 ^ b : Nat) : Int) := by simp
  have e3 : ((2 : Int) ^ n) = ((2 ^ n : Nat) : Int) := by simp
  rw [e, e2, e3]
  have hlt : v * 2 ^ b < 18446744073709551616 := by rw [← hp]; exact (Nat.mul_lt_mul_right h0).2 hv
  have hk : 2 * v < 2 ^ n ↔ v * 2 ^ b < 9223372036854775808 := by
    constructor
    · intro h
      have : 2 * v * 2 ^ b < 2 ^ n * 2 ^ b := (Nat.mul_lt_mul_right h0).2 h
      rw [hp, Nat.mul_assoc] at this; omega
    · intro h
      refine (Nat.mul_lt_mul_right h0).1 ?_
      rw [hp, Nat.mul_assoc]; omega
  have eu : IntKind.u64.wrap ((v * 2 ^ b : Nat) : Int) = ((v * 2 ^ b : Nat) : Int) := by rw [IntKind.wrap_u64]; omega
  rw [eu]
  have h0i : ((2 ^ b : Nat) : Int) ≠ 0 := by omega
  by_cases h : 2 * v < 2 ^ n
  · rw [if_pos h, IntWalk.i64_in _ (by have := hk.1 h; omega)]
    rw [Int.natCast_mul, Int.mul_ediv_cancel _ h0i]
  · rw [if_neg h]
    have h2 : ¬ v * 2 ^ b < 9223372036854775808 := fun c => h (hk.2 c)
    have ew : IntKind.i64.wrap ((v * 2 ^ b : Nat) : Int) = ((v : Int) - ((2 ^ n : Nat) : Int)) * ((2 ^ b : Nat) : Int) := by
      rw [Int.sub_mul, ← Int.natCast_mul, ← Int.natCast_mul, hp, IntKind.wrap_i64]
      omega
    rw [ew, Int.mul_ediv_cancel _ h0i]

/-- n bits with a sign. -/
def sgn (v n : Nat) : Int := if 2 * v < 2 ^ n then (v : Int) else (v : Int) - 2 ^ n

theorem got_lt (l : List Nat) (a n : Nat) : (got l a n).1 < 2 ^ n := by
  unfold got; split
  · exact num_lt l a n
  · exact Nat.two_pow_pos n

set_option maxHeartbeats 1000000 in
/-- The reader's **Sign.** -/
theorem signR_calls (g : Nat) (l : List Nat) (a : Nat) (x : Int) (w : World) (h : Rr w g l a) :
    Calls Tryz.prog 181 #[.pointer (some ⟨g, 0, none⟩), .int .i64 x] w fun e w' => e = .returned (.tuple #[.int .i64 (sgn (got l a (inn x)).1 (inn x)), .bool (got l a (inn x)).2.1]) ∧ Rr w' g l (got l a (inn x)).2.2 ∧ w.grownBy w' (some g) := by
  have hn := inn_le x
  have hG := get_calls g l a x w h
  have hW := fun w => within_calls x w
  have hlt := got_lt l a (inn x)
  obtain ⟨n, hnx⟩ : ∃ n, inn x = n := ⟨_, rfl⟩
  rw [hnx] at hn hG hlt ⊢
  simp only [hnx] at hW
  obtain ⟨G, hGG⟩ : ∃ G, got l a n = G := ⟨_, rfl⟩
  rw [hGG] at hG hlt ⊢
  obtain ⟨v, ok, b⟩ := G
  simp only at hG hlt ⊢
  have hs := sgn_walk v n hn hlt
  change _ = sgn v n at hs
  obtain ⟨z, hz⟩ : ∃ z, sgn v n = z := ⟨_, rfl⟩
  rw [hz] at hs ⊢
  have e1 : IntKind.i64.wrap (64 - (n : Int)) = ((64 - n : Nat) : Int) := by rw [IntWalk.i64_in _ (by omega)]; omega
  obtain ⟨m, hm⟩ : ∃ m, 64 - n = m := ⟨_, rfl⟩
  rw [hm] at e1 hs
  have hs1 : IntKind.i64.wrap (IntKind.u64.wrap ((v : Int) * 2 ^ min m 64)) / 2 ^ min m 64 = z := by rw [Nat.min_eq_left (by omega)]; exact hs
  have hs2 : IntKind.i64.wrap (IntKind.u64.wrap ((v : Int) * 2 ^ m)) / 2 ^ min m 64 = z := by rw [Nat.min_eq_left (by omega)]; exact hs
  have hs3 : wrap64 (IntKind.u64.wrap ((v : Int) * 2 ^ m)) / 2 ^ m = z := by rw [← hs, IntWalk.i64_left]
  have HG := Lib.hid hG
  have HW : Hid (∀ w, Calls Tryz.prog 179 #[.int .i64 x] w fun e w' => e = .returned (.int .i64 (n : Int)) ∧ w = w') := Lib.hid hW
  have hm64 : m ≤ 64 := by omega
  clear hG hW hz hlt hnx hn hm hGG h
  go_enter Tryz.func181, Tryz.ntmps181
  go_wp2_with (first
    | (go_at_call 180; refine HG.out.mono ?_; rintro e w1 ⟨rfl, h1, h2⟩; have H1 := Lib.hid h1; have H2 := Lib.hid h2; clear h1 h2)
    | (go_at_call 179; refine (HW.out _).mono ?_; rintro e w1 ⟨rfl, rfl⟩))
  go_ret2
  exact ⟨rfl, H1.out, H2.out⟩

/-- A number's bits, as a number without a sign. -/
def uw (x : Int) : Nat := (x % 18446744073709551616).toNat
theorem uw_lt (x : Int) : uw x < 18446744073709551616 := by unfold uw; omega
theorem uw_wrap (x : Int) : IntKind.u64.wrap x = (uw x : Int) := by rw [IntKind.wrap_u64]; unfold uw; omega

set_option maxHeartbeats 1000000 in
/-- The writer's **Sign.** -/
theorem signW_calls (g : Nat) (y x : Int) (bs : List Bool) (hl : bs.length ≤ 1000000) (v0 : Value) (w : World) (hw : Wr w g bs v0) :
    Calls Tryz.prog 106 #[.pointer (some ⟨g, 0, none⟩), .int .i64 y, .int .i64 x] w fun e w' => e = .returned (.tuple #[]) ∧
      ∃ v, Wr w' g (bs ++ hb (uw y) (inn x)) v ∧ (v.ownBlock = v0.ownBlock ∨ ∀ k, v.ownBlock = some k → w.heap.size ≤ k) ∧ Frm w w' g v0.ownBlock := by
  have HP := Lib.hid (put_calls g (uw y) x (uw_lt y) bs hl v0 w hw)
  have hu := uw_wrap y
  clear hw
  go_enter Tryz.func106, Tryz.ntmps106
  go_wp2_with (go_at_call 105; refine HP.out.mono ?_; rintro e w1 ⟨rfl, v, h1, h2, h3⟩; have H1 := Lib.hid h1; have H2 := Lib.hid h2; have H3 := Lib.hid h3; clear h1 h2 h3)
  go_end0
  exact ⟨rfl, v, H1.out, H2.out, H3.out⟩

theorem wr_new (w : World) : Wr (w.alloc (.cells #[.slice none 0 0, .int .i64 0] 108)) w.heap.size [] (.slice none 0 0) :=
  ⟨Blk.new w 108 _, World.ownsRow_nil _ _ 5 1⟩
theorem Frm.over {a b c : World} {g : Nat} {r : Option Nat} (h : a.grownBy b none) (k : Frm b c g r) (hg : a.heap.size ≤ g) (hr : ∀ j, r = some j → a.heap.size ≤ j) : a.grownBy c none :=
  ⟨k.os.trans h.os, k.tape.trans h.tape, k.output.trans h.output, Nat.le_trans h.size k.size, fun i hi _ => (k.block i (Nat.lt_of_lt_of_le hi h.size) (by omega) (fun e => by have := hr i e.symm; omega)).trans (h.block i hi (by simp))⟩
theorem grown_drawn {a b : World} {r : Option Nat} (h : a.grownBy b r) (n : Nat) : a.grownBy (b.drewN n) r := ⟨h.os, h.tape, h.output, h.size, h.block⟩
/-- A writer of one's own abides whatever leaves what lay. -/
theorem Wr.grown {A B : World} {g : Nat} {bs : List Bool} {v : Value} (h : Wr A g bs v) (hg : A.grownBy B none) : Wr B g bs v := h.kept hg (fun r e => by cases e)
theorem Rr.grown {A B : World} {g : Nat} {l : List Nat} {a : Nat} (h : Rr A g l a) (hg : A.grownBy B none) : Rr B g l a :=
  h.keep fun k hk => hg.block k (Nat.lt_of_le_of_lt hk h.lt) (by simp)

theorem Frm.cell {a b : World} {g : Nat} {r : Option Nat} (h : Frm a b g r) (k i : Nat) (u : Value) (hk : a.cell? ⟨k, i, none⟩ = some u) (hl : k < a.heap.size) (hg : k ≠ g) (hr : some k ≠ r) : b.cell? ⟨k, i, none⟩ = some u :=
  (World.cell?_of_block (a := ⟨k, i, none⟩) (h.block k hl hg hr)).trans hk
theorem grown_cell {a b : World} {r : Option Nat} (h : a.grownBy b r) (k i : Nat) (u : Value) (hk : a.cell? ⟨k, i, none⟩ = some u) (hl : k < a.heap.size) (hr : some k ≠ r) : b.cell? ⟨k, i, none⟩ = some u :=
  (World.cell?_of_block (a := ⟨k, i, none⟩) (h.block k hl hr)).trans hk
theorem Wr.row_lt {w : World} {g : Nat} {bs : List Bool} {v : Value} (h : Wr w g bs v) (k : Nat) (e : v.ownBlock = some k) : k < w.heap.size ∧ g < k := by
  rcases h.row.2 with ⟨hv, _⟩ | ⟨g', cap, cur, hv, hb, hh, _⟩
  · subst hv; cases e
  · subst hv; injection e with e
    have := (Array.getElem?_eq_some_iff.1 hh).1
    simp at e; omega
end Go.Proofs.YtbilegkffooioaaGreatDoor
namespace Go.Proofs.YtbilegkffooioaaGreatDoor
open Go.RowKit

theorem obit_pk (bs : List Bool) (N k : Nat) (hk : k < 8 * N) : obit (pk bs N) k = bi bs k := by
  have h8 : k / 8 < N := by omega
  have e : (pk bs N).getD (k / 8) 0 = by8 bs (k / 8) := by simp [pk, h8]
  unfold obit
  rw [e]
  have hr : k % 8 < 8 := Nat.mod_lt _ (by decide)
  have hd : 8 * (k / 8) + k % 8 = k := Nat.div_add_mod _ _
  generalize k / 8 = q at *
  generalize k % 8 = r at *
  subst hd
  have := bi_le bs (8*q); have := bi_le bs (8*q+1); have := bi_le bs (8*q+2); have := bi_le bs (8*q+3); have := bi_le bs (8*q+4); have := bi_le bs (8*q+5); have := bi_le bs (8*q+6); have := bi_le bs (8*q+7)
  unfold by8
  rcases (by omega : r = 0 ∨ r = 1 ∨ r = 2 ∨ r = 3 ∨ r = 4 ∨ r = 5 ∨ r = 6 ∨ r = 7) with h | h | h | h | h | h | h | h <;> subst h <;> simp only [Nat.add_zero, Nat.sub_zero, Nat.reduceSub, Nat.reducePow] <;> omega
/-- n bits from a on, as a number. -/
def bnum (bs : List Bool) (a : Nat) : Nat → Nat
  | 0 => 0
  | n + 1 => bnum bs a n * 2 + bi bs (a + n)
theorem num_pk (bs : List Bool) (N a n : Nat) (h : a + n ≤ 8 * N) : num (pk bs N) a n = bnum bs a n := by
  induction n with
  | zero => rfl
  | succ n ih => rw [num, bnum, ih (by omega), obit_pk bs N _ (by omega)]
theorem bi_mid (p q r : List Bool) (j : Nat) (hj : j < q.length) : bi (p ++ q ++ r) (p.length + j) = bi q j := by
  have e : (p ++ q ++ r).getD (p.length + j) false = q.getD j false := by
    simp only [List.getD, List.append_assoc]
    rw [List.getElem?_append_right (by omega), Nat.add_sub_cancel_left, List.getElem?_append_left hj]
  unfold bi; rw [e]
theorem bi_hb (X m j : Nat) (hj : j < m) : bi (hb X m) j = X / 2 ^ (m - 1 - j) % 2 := by
  have e : (hb X m).getD j false = X.testBit (m - 1 - j) := by simp [hb, ht, hj]
  unfold bi
  rw [e, Nat.testBit_eq_decide_div_mod_eq]
  by_cases h : X / 2 ^ (m - 1 - j) % 2 = 1
  · simp [h]
  · have : X / 2 ^ (m - 1 - j) % 2 = 0 := by omega
    simp [this]
theorem hb_len (X m : Nat) : (hb X m).length = m := ht_len X m m
theorem bnum_hb (p r : List Bool) (X m k : Nat) (hk : k ≤ m) : bnum (p ++ hb X m ++ r) p.length k = X % 2 ^ m / 2 ^ (m - k) := by
  induction k with
  | zero => simp only [bnum, Nat.sub_zero]; exact (Nat.div_eq_of_lt (Nat.mod_lt _ (Nat.two_pow_pos m))).symm
  | succ k ih =>
    rw [bnum, ih (by omega), bi_mid p _ r k (by rw [hb_len]; omega), bi_hb X m k (by omega)]
    have e1 : m - k = (m - (k + 1)) + 1 := by omega
    have e2 : m - 1 - k = m - (k + 1) := by omega
    rw [e1, e2]
    generalize hs : m - (k + 1) = s
    rw [Nat.pow_succ, ← Nat.div_div_eq_div_mul]
    have e3 : X / 2 ^ s % 2 = X % 2 ^ m / 2 ^ s % 2 := by
      have h1 := Nat.testBit_mod_two_pow X m s
      rw [Nat.testBit_eq_decide_div_mod_eq, Nat.testBit_eq_decide_div_mod_eq, decide_eq_true (show s < m by omega), Bool.true_and] at h1
      have := decide_eq_decide.1 h1
      omega
    rw [e3]
    omega
theorem bnum_all (p r : List Bool) (X m : Nat) : bnum (p ++ hb X m ++ r) p.length m = X % 2 ^ m := by
  rw [bnum_hb p r X m m (Nat.le_refl _), Nat.sub_self, Nat.pow_zero, Nat.div_one]
theorem hb_split (X m c : Nat) (hc : c ≤ m) : hb X m = hb (X / 2 ^ c) (m - c) ++ hb X c := by
  refine List.ext_getElem? fun i => ?_
  by_cases h : i < m - c
  · rw [List.getElem?_append_left (by rw [hb_len]; exact h)]
    simp only [hb, ht, List.getElem?_map]
    rw [List.getElem?_range (by omega), List.getElem?_range h]
    simp only [Option.map_some, Nat.testBit_div_two_pow]
    congr 2; omega
  · rw [List.getElem?_append_right (by rw [hb_len]; omega), hb_len]
    by_cases h2 : i < m
    · simp only [hb, ht, List.getElem?_map]
      rw [List.getElem?_range (by omega), List.getElem?_range (by omega)]
      simp only [Option.map_some]
      congr 2; omega
    · rw [List.getElem?_eq_none (by rw [hb_len]; omega), List.getElem?_eq_none (by rw [hb_len]; omega)]
theorem hb_mod (X m c : Nat) (hc : c ≤ m) : hb (X % 2 ^ m) c = hb X c := by
  unfold hb ht
  refine List.map_congr_left fun j hj => ?_
  rw [Nat.testBit_mod_two_pow]
  have := List.mem_range.1 hj
  rw [decide_eq_true (by omega), Bool.true_and]
end Go.Proofs.YtbilegkffooioaaGreatDoor
/-
  A row of structs that the call owns: append at an operation, in a plain region and in one that draws. Rows of numbers and fields.
-/
namespace Go.Proofs.YtbilegkffooioaaGreatDoor
open Go.RowKit

theorem below_grown {a b : World} (h : a.grownBy b none) : Below a.heap.size a b := ⟨h.os, h.tape, h.output, h.size, fun k hk => h.block k hk (by simp)⟩

section
variable {P : Program} {w : World} {α : Type} {cl : α → List Value}
theorem wp_append_rg {o : Oper} {a : Act} {K : Act → World → Prop} {Q : Exit → Act → World → Prop} (s x : Operand) (t : TypeId)
    (ho : o.op = .call { callee := .builtin .append, args := #[s, x], argTypes := #[t, t] })
    (base : Nat) (e : TypeId) (z : Value) (size bytes : Nat) (hcl : ∀ x, (cl x).length = size) (ht : P.underlying t = some (.slice e)) (hinfo : (P.info? e).map (fun i => (i.zero, i.size, i.bytes)) = some (some z, size, bytes)) (hzs : z.cells.size = size) (hsz : 0 < size)
    (v : Value) (n : Nat) (xs : List α) (hs : a.eval s = v) (hown : w.ownsRow base e size v n (xs.flatMap cl))
    (B : Nat) (A : Option Addr) (m c : Nat) (news : List α) (hx : a.eval x = .slice A m c) (hr : Rg size cl w B A m news) (h1 : ∀ u ∈ news.flatMap cl, u.oneCell' = true)
    (N : Nat) (hN : n + m = N) (h63 : N ≤ maxLen) (hbytes : N * bytes ≤ 140737488355328) (hbase : base ≤ w.heap.size)
    (h : ∀ A' c' w', w'.ownsRow base e size (.slice A' N c') N ((xs ++ news).flatMap cl) → w.grownBy w' v.ownBlock → ((Value.slice A' N c').ownBlock = v.ownBlock ∨ (Value.slice A' N c').ownBlock = some w.heap.size) → K (a.put o.dst (.slice A' N c')) w') : o.wp P a w K Q := by
  subst hN
  obtain ⟨A', c', w', hrun, h2, h3, h4⟩ := run_append_rg (P := P) w base t o.type e z size bytes hcl ht hinfo hzs hsz v n (xs.flatMap cl) hown B A m c news hr h1 h63 hbytes hbase
  rw [← List.flatMap_append] at h2
  unfold Oper.wp execOp
  simp only [ho, resolve, invoke, builtin, Sem.run_bind, Sem.run_pure, Result.andThen_ok, List.map_toArray, List.map_cons, List.map_nil, hs, hx, hrun]
  exact h A' c' w' h2 h3 h4
theorem wpList_append_rg {ops : Array Oper} {rest : List Oper} {o : Oper} {a : Act} {Q : Exit → Act → World → Prop} (hgd : o.guard = none) (s x : Operand) (t : TypeId)
    (ho : o.op = .call { callee := .builtin .append, args := #[s, x], argTypes := #[t, t] })
    (base : Nat) (e : TypeId) (z : Value) (size bytes : Nat) (hcl : ∀ x, (cl x).length = size) (ht : P.underlying t = some (.slice e)) (hinfo : (P.info? e).map (fun i => (i.zero, i.size, i.bytes)) = some (some z, size, bytes)) (hzs : z.cells.size = size) (hsz : 0 < size)
    (v : Value) (n : Nat) (xs : List α) (hs : a.eval s = v) (hown : w.ownsRow base e size v n (xs.flatMap cl))
    (B : Nat) (A : Option Addr) (m c : Nat) (news : List α) (hx : a.eval x = .slice A m c) (hr : Rg size cl w B A m news) (h1 : ∀ u ∈ news.flatMap cl, u.oneCell' = true)
    (N : Nat) (hN : n + m = N) (h63 : N ≤ maxLen) (hbytes : N * bytes ≤ 140737488355328) (hbase : base ≤ w.heap.size)
    (h : ∀ A' c' w', w'.ownsRow base e size (.slice A' N c') N ((xs ++ news).flatMap cl) → w.grownBy w' v.ownBlock → ((Value.slice A' N c').ownBlock = v.ownBlock ∨ (Value.slice A' N c').ownBlock = some w.heap.size) → wpList P ops Q rest (a.put o.dst (.slice A' N c')) w') : wpList P ops Q (o :: rest) a w :=
  wpList_plain hgd fun _ hK => wp_append_rg s x t ho base e z size bytes hcl ht hinfo hzs hsz v n xs hs hown B A m c news hx hr h1 N hN h63 hbytes hbase fun A' c' w' h2 h3 h4 => hK _ _ (h A' c' w' h2 h3 h4)
theorem step_append_rg {ops : Array Oper} {o : Oper} {a : Act} {K : Act → World → Prop} {Q : Exit → Act → World → Prop} {E : Prop} (hgd : o.guard = none) (s x : Operand) (t : TypeId)
    (ho : o.op = .call { callee := .builtin .append, args := #[s, x], argTypes := #[t, t] })
    (base : Nat) (e : TypeId) (z : Value) (size bytes : Nat) (hcl : ∀ x, (cl x).length = size) (ht : P.underlying t = some (.slice e)) (hinfo : (P.info? e).map (fun i => (i.zero, i.size, i.bytes)) = some (some z, size, bytes)) (hzs : z.cells.size = size) (hsz : 0 < size)
    (v : Value) (n : Nat) (xs : List α) (hs : a.eval s = v) (hown : w.ownsRow base e size v n (xs.flatMap cl))
    (B : Nat) (A : Option Addr) (m c : Nat) (news : List α) (hx : a.eval x = .slice A m c) (hr : Rg size cl w B A m news) (h1 : ∀ u ∈ news.flatMap cl, u.oneCell' = true)
    (N : Nat) (hN : n + m = N) (h63 : N ≤ maxLen) (hbytes : N * bytes ≤ 140737488355328) (hbase : base ≤ w.heap.size)
    (h : ∀ A' c' w', w'.ownsRow base e size (.slice A' N c') N ((xs ++ news).flatMap cl) → w.grownBy w' v.ownBlock → ((Value.slice A' N c').ownBlock = v.ownBlock ∨ (Value.slice A' N c').ownBlock = some w.heap.size) → K (a.put o.dst (.slice A' N c')) w') :
    if Region.wanted o (yielded ops a.tmps) = true then Oper.wp P o a w K Q else E := by
  have hw : Region.wanted o (yielded ops a.tmps) = true := by simp [Region.wanted, hgd]
  rw [if_pos hw]
  exact wp_append_rg s x t ho base e z size bytes hcl ht hinfo hzs hsz v n xs hs hown B A m c news hx hr h1 N hN h63 hbytes hbase h

/-- The row, cut at its head: nothing of it. -/
theorem own_head {base : Nat} {e : TypeId} {size n cap : Nat} {g : Nat} {xs : List Value} (h : w.ownsRow base e size (.slice (some ⟨g, 0, none⟩) n cap) n xs) : w.ownsRow base e size (.slice (some ⟨g, 0, none⟩) 0 cap) 0 (([] : List α).flatMap cl) := by
  rcases h.2 with ⟨hv, _⟩ | ⟨g', cap', cur, hv, hb, hh, hn, hm, hs, ht⟩
  · cases hv
  · injection hv with h1 h2 h3
    injection h1 with h1
    injection h1 with h1
    subst h1 h3
    exact ⟨by simp, .inr ⟨g, cap, cur, rfl, hb, hh, Nat.zero_le _, hm, hs, by simp⟩⟩
/-- The row's tail. -/
theorem own_tail {base : Nat} {e : TypeId} {size n cap : Nat} {g : Nat} {xs : List α} (hcl : ∀ x, (cl x).length = size) (hsz : 0 < size) (h : w.ownsRow base e size (.slice (some ⟨g, 0, none⟩) n cap) n (xs.flatMap cl)) (k : Nat) (hk : k ≤ n) (A : Option Addr) (hA : k < n → A = some ⟨g, k * size, none⟩) :
    Rg size cl w w.heap.size A (n - k) (xs.drop k) := by
  have hl : xs.length = n := by
    have := h.1
    rw [flat_len hcl] at this
    exact Nat.eq_of_mul_eq_mul_right hsz this
  refine ⟨by rw [List.length_drop, hl], fun h0 => ⟨g, k * size, hA (by omega), (h.lt g rfl).2, fun j u hu => ?_⟩⟩
  rw [← flat_drop hcl, List.getElem?_drop] at hu
  have := h.cells (g := g) rfl _ u hu
  rwa [Addr.add_mid, Nat.zero_add] at this

end

/-- What grows by its own row only, the row being none of the elder ones. -/
theorem grown_own {a b c : World} {row : Option Nat} (h : a.grownBy b none) (j : b.grownBy c row) (hk : ∀ k, row = some k → a.heap.size ≤ k) : a.grownBy c none := by
  cases row with
  | none => exact h.trans j
  | some k => exact grown_over h j (hk k rfl)
theorem own_kept {w w' : World} {base n sz : Nat} {e : TypeId} {v : Value} {xs : List Value} (h : w.ownsRow base e sz v n xs) (hg : w.grownBy w' none) : w'.ownsRow base e sz v n xs := h.kept hg (by cases hv : v.ownBlock <;> simp)

/-- A row as it lies: its number, and where its fields are. -/
structure Rv where
  id : Int
  A : Option Addr
  cap : Nat
  fields : List Int
deriving Inhabited
def Rv.cl (r : Rv) : List Value := [.int .i64 r.id, .slice r.A r.fields.length r.cap]
theorem Rv.cl_len (r : Rv) : r.cl.length = 2 := rfl
theorem Rv.one (l : List Rv) : ∀ u ∈ l.flatMap Rv.cl, u.oneCell' = true := by
  intro u hu
  obtain ⟨c, _, hc⟩ := List.mem_flatMap.1 hu
  simp [Rv.cl] at hc
  rcases hc with rfl | rfl <;> rfl
def Rv.row (r : Rv) : Rw := ⟨r.id, r.fields⟩
/-- A row's fields lie in a block made since lo, which is not the one named. -/
def Fld (w : World) (lo : Nat) (out : Option Nat) (v : Rv) : Prop := ∃ g, v.A = some ⟨g, 0, none⟩ ∧ lo ≤ g ∧ g < w.heap.size ∧ some g ≠ out ∧ ∀ j u, (ints v.fields)[j]? = some u → w.cell? ⟨g, 0 + j, none⟩ = some u
theorem Fld.grown {w w' : World} {lo : Nat} {out out' : Option Nat} {v : Rv} (h : Fld w lo out v) (hg : w.grownBy w' out) (ho : out' = out ∨ out' = some w.heap.size) : Fld w' lo out' v := by
  obtain ⟨g, h1, h2, h3, h4, h5⟩ := h
  refine ⟨g, h1, h2, Nat.lt_of_lt_of_le h3 hg.size, ?_, fun j u hu => (World.cell?_of_block (hg.block g h3 h4)).trans (h5 j u hu)⟩
  rcases ho with rfl | rfl
  · exact h4
  · intro e; injection e with e; omega
theorem Fld.kept {w w' : World} {lo : Nat} {out : Option Nat} {v : Rv} (h : Fld w lo out v) (hg : w.grownBy w' none) : Fld w' lo out v := by
  obtain ⟨g, h1, h2, h3, h4, h5⟩ := h
  exact ⟨g, h1, h2, Nat.lt_of_lt_of_le h3 hg.size, h4, fun j u hu => (World.cell?_of_block (hg.block g h3 (by simp))).trans (h5 j u hu)⟩
/-- Rows in memory. -/
def RowsAt (w : World) (lo : Nat) (A : Option Addr) (n : Nat) (rs : List Rw) : Prop := ∃ vs : List Rv, vs.map Rv.row = rs ∧ Rg 2 Rv.cl w w.heap.size A n vs ∧ (∀ v ∈ vs, Fld w lo none v) ∧ ∀ ad, A = some ad → lo ≤ ad.block
theorem RowsAt.grown {w w' : World} {lo n : Nat} {A : Option Addr} {rs : List Rw} (h : RowsAt w lo A n rs) (hg : w.grownBy w' none) : RowsAt w' lo A n rs := by
  obtain ⟨vs, h1, h2, h3, h4⟩ := h
  exact ⟨vs, h1, (h2.grown hg (Nat.le_refl _) (by simp)).more hg.size, fun v hv => (h3 v hv).kept hg, h4⟩
theorem loadRow {w : World} {b o : Nat} {c : Rv} (h : w.rangeAt b o c.cl) : (Instr.loadAt 89 (.pointer (some ⟨b, o, none⟩))).run Tryz.prog w = .ok (.agg #[.int .i64 c.id, .slice c.A c.fields.length c.cap]) w :=
  run_loadAt_mid w b o 89 c.cl _ h Tryz.underlying89 rfl Tryz.size89
theorem row_cells {w : World} {b o : Nat} {c : Rv} (h : w.rangeAt b o c.cl) : w.cell? ⟨b, o, none⟩ = some (.int .i64 c.id) ∧ w.cell? ⟨b, o + 1, none⟩ = some (.slice c.A c.fields.length c.cap) := ⟨h 0 _ rfl, h 1 _ rfl⟩
theorem pl_cells {w : World} {b o : Nat} {p : Pl} (h : w.rangeAt b o p.cl) : w.cell? ⟨b, o, none⟩ = some (.int .i64 p.id) ∧ w.cell? ⟨b, o + 1, none⟩ = some (.int .i64 p.px) ∧ w.cell? ⟨b, o + 2, none⟩ = some (.int .i64 p.py) ∧ w.cell? ⟨b, o + 3, none⟩ = some (.int .i64 p.pz) ∧
    w.cell? ⟨b, o + 4, none⟩ = some (.int .i64 p.vx) ∧ w.cell? ⟨b, o + 5, none⟩ = some (.int .i64 p.vy) ∧ w.cell? ⟨b, o + 6, none⟩ = some (.int .i64 p.vz) ∧ w.cell? ⟨b, o + 7, none⟩ = some (.bool p.ground) ∧ w.cell? ⟨b, o + 8, none⟩ = some (.int .i64 p.health) ∧
    w.cell? ⟨b, o + 9, none⟩ = some (.int .i64 p.armour) ∧ w.cell? ⟨b, o + 10, none⟩ = some (.int .i64 p.score) ∧ w.cell? ⟨b, o + 11, none⟩ = some (.int .i64 p.a0) ∧ w.cell? ⟨b, o + 12, none⟩ = some (.int .i64 p.a1) ∧ w.cell? ⟨b, o + 13, none⟩ = some (.int .i64 p.wait) ∧ w.cell? ⟨b, o + 14, none⟩ = some (.int .i64 p.dead) :=
  ⟨h 0 _ rfl, h 1 _ rfl, h 2 _ rfl, h 3 _ rfl, h 4 _ rfl, h 5 _ rfl, h 6 _ rfl, h 7 _ rfl, h 8 _ rfl, h 9 _ rfl, h 10 _ rfl, h 11 _ rfl, h 12 _ rfl, h 13 _ rfl, h 14 _ rfl⟩
theorem sh_cells {w : World} {b o : Nat} {p : Sh} (h : w.rangeAt b o p.cl) : w.cell? ⟨b, o, none⟩ = some (.int .i64 p.id) ∧ w.cell? ⟨b, o + 1, none⟩ = some (.int .i64 p.owner) ∧ w.cell? ⟨b, o + 2, none⟩ = some (.int .i64 p.kind) ∧ w.cell? ⟨b, o + 3, none⟩ = some (.int .i64 p.px) ∧
    w.cell? ⟨b, o + 4, none⟩ = some (.int .i64 p.py) ∧ w.cell? ⟨b, o + 5, none⟩ = some (.int .i64 p.pz) ∧ w.cell? ⟨b, o + 6, none⟩ = some (.int .i64 p.vx) ∧ w.cell? ⟨b, o + 7, none⟩ = some (.int .i64 p.vy) ∧ w.cell? ⟨b, o + 8, none⟩ = some (.int .i64 p.vz) ∧
    w.cell? ⟨b, o + 9, none⟩ = some (.int .i64 p.fuse) ∧ w.cell? ⟨b, o + 10, none⟩ = some (.bool p.rest) :=
  ⟨h 0 _ rfl, h 1 _ rfl, h 2 _ rfl, h 3 _ rfl, h 4 _ rfl, h 5 _ rfl, h 6 _ rfl, h 7 _ rfl, h 8 _ rfl, h 9 _ rfl, h 10 _ rfl⟩
end Go.Proofs.YtbilegkffooioaaGreatDoor
/-
  view.playerRow, shotRow: a thing as a row.
-/
namespace Go.Proofs.YtbilegkffooioaaGreatDoor
open Go.RowKit

section
variable (W : World) (o1 o2 o3 : Obj)
theorem three_size : ((W.alloc o1).alloc o2).heap.size = W.heap.size + 1 + 1 := by simp
theorem three_mid : (((W.alloc o1).alloc o2).alloc o3).drew.heap[W.heap.size + 1]? = some o2 := by
  have h1 := heap_alloc_new (W.alloc o1) o2
  have h2 := Below.heap_alloc ((W.alloc o1).alloc o2) o3 (W.alloc o1).heap.size (by simp)
  have e : (W.alloc o1).heap.size = W.heap.size + 1 := by simp
  rw [h1, e] at h2
  exact h2
theorem three_lt : W.heap.size + 1 + 1 < (((W.alloc o1).alloc o2).alloc o3).drew.heap.size := by simp
theorem three_grown : W.grownBy (((W.alloc o1).alloc o2).alloc o3).drew none :=
  (((World.grownBy_alloc _ _ none).trans (World.grownBy_alloc _ _ none)).trans (World.grownBy_alloc _ _ none)).trans ⟨rfl, rfl, rfl, Nat.le_refl _, fun _ _ _ => rfl⟩
theorem three_cell (t : TypeId) (cs : Array Value) (j : Nat) (u : Value) (h : cs[j]? = some u) : (((W.alloc o1).alloc o2).alloc (.cells cs t)).drew.cell? ⟨W.heap.size + 1 + 1, j, none⟩ = some u := by
  have e1 := cell_of_row _ _ j cs t (0, 0) (heap_alloc_new ((W.alloc o1).alloc o2) (.cells cs t))
  rw [three_size] at e1
  exact (show (((W.alloc o1).alloc o2).alloc (.cells cs t)).drew.cell? ⟨W.heap.size + 1 + 1, j, none⟩ = _ from e1).trans h
end

theorem flag_calls (b : Bool) (W : World) : Calls Tryz.prog 87 #[.bool b] W fun e w' => e = .returned (.int .i64 (flagZ b)) ∧ w' = W := by
  cases b
  · go_enter Tryz.func87, Tryz.ntmps87
    go_wp2
    go_ret
    exact ⟨rfl, rfl⟩
  · go_enter Tryz.func87, Tryz.ntmps87
    go_wp2
    go_ret
    exact ⟨rfl, rfl⟩

set_option maxHeartbeats 8000000 in
set_option maxRecDepth 1000000 in
/-- A thing becomes a row. -/
theorem shotRow_calls (p : Sh) (W : World) : Calls Tryz.prog 32 #[p.val] W fun e w' => ∃ g, e = .returned (.agg #[.int .i64 p.id, .slice (some ⟨g, 0, none⟩) 10 10]) ∧ W.grownBy w' none ∧ W.heap.size ≤ g ∧ g < w'.heap.size ∧ ∀ j u, (ints p.fields)[j]? = some u → w'.cell? ⟨g, 0 + j, none⟩ = some u := by
  go_enter Tryz.func32, Tryz.ntmps32
  go_wp2_with fail
  go_region_held3 (fun w' => w'.cell? ⟨W.heap.size, 0, none⟩ = some (.int .i64 p.id) ∧ w'.cell? ⟨W.heap.size, 1, none⟩ = some (.int .i64 p.owner) ∧ w'.cell? ⟨W.heap.size, 2, none⟩ = some (.int .i64 p.kind) ∧ w'.cell? ⟨W.heap.size, 3, none⟩ = some (.int .i64 p.px) ∧ w'.cell? ⟨W.heap.size, 4, none⟩ = some (.int .i64 p.py) ∧ w'.cell? ⟨W.heap.size, 5, none⟩ = some (.int .i64 p.pz) ∧ w'.cell? ⟨W.heap.size, 6, none⟩ = some (.int .i64 p.vx) ∧ w'.cell? ⟨W.heap.size, 7, none⟩ = some (.int .i64 p.vy) ∧ w'.cell? ⟨W.heap.size, 8, none⟩ = some (.int .i64 p.vz) ∧ w'.cell? ⟨W.heap.size, 9, none⟩ = some (.int .i64 p.fuse) ∧ w'.cell? ⟨W.heap.size, 10, none⟩ = some (.bool p.rest)) (go_keep)
    (first | (go_at_call 87; refine (flag_calls _ _).mono ?_; rintro e w' ⟨rfl, rfl⟩))

  go_wp2
  refine bodyPost_ret (results_cell_row (cs := #[.int .i64 p.id, .slice (some ⟨W.heap.size + 1 + 1, 0, none⟩) 10 10]) rfl _ _ (W.heap.size + 1) 89 (0, 0) _ rfl (three_mid W _ _ _) Tryz.underlying89 rfl Tryz.size89) rfl ?_
  exact ⟨W.heap.size + 1 + 1, rfl, three_grown W _ _ _, by omega, three_lt W _ _ _, fun j u hu => by rw [Nat.zero_add]; exact three_cell W _ _ 2 (ints p.fields).toArray j u (by rw [List.getElem?_toArray]; exact hu)⟩

set_option maxHeartbeats 8000000 in
set_option maxRecDepth 1000000 in
/-- A thing becomes a row. -/
theorem playerRow_calls (p : Pl) (W : World) : Calls Tryz.prog 30 #[p.val] W fun e w' => ∃ g, e = .returned (.agg #[.int .i64 p.id, .slice (some ⟨g, 0, none⟩) 14 14]) ∧ W.grownBy w' none ∧ W.heap.size ≤ g ∧ g < w'.heap.size ∧ ∀ j u, (ints p.fields)[j]? = some u → w'.cell? ⟨g, 0 + j, none⟩ = some u := by
  go_enter Tryz.func30, Tryz.ntmps30
  go_wp2_with fail
  go_region_held3 (fun w' => w'.cell? ⟨W.heap.size, 0, none⟩ = some (.int .i64 p.id) ∧ w'.cell? ⟨W.heap.size, 1, none⟩ = some (.int .i64 p.px) ∧ w'.cell? ⟨W.heap.size, 2, none⟩ = some (.int .i64 p.py) ∧ w'.cell? ⟨W.heap.size, 3, none⟩ = some (.int .i64 p.pz) ∧ w'.cell? ⟨W.heap.size, 4, none⟩ = some (.int .i64 p.vx) ∧ w'.cell? ⟨W.heap.size, 5, none⟩ = some (.int .i64 p.vy) ∧ w'.cell? ⟨W.heap.size, 6, none⟩ = some (.int .i64 p.vz) ∧ w'.cell? ⟨W.heap.size, 7, none⟩ = some (.bool p.ground) ∧ w'.cell? ⟨W.heap.size, 8, none⟩ = some (.int .i64 p.health) ∧ w'.cell? ⟨W.heap.size, 9, none⟩ = some (.int .i64 p.armour) ∧ w'.cell? ⟨W.heap.size, 10, none⟩ = some (.int .i64 p.score) ∧ w'.cell? ⟨W.heap.size, 11, none⟩ = some (.int .i64 p.a0) ∧ w'.cell? ⟨W.heap.size, 12, none⟩ = some (.int .i64 p.a1) ∧ w'.cell? ⟨W.heap.size, 13, none⟩ = some (.int .i64 p.wait) ∧ w'.cell? ⟨W.heap.size, 14, none⟩ = some (.int .i64 p.dead)) (go_keep)
    (first | (go_at_call 87; refine (flag_calls _ _).mono ?_; rintro e w' ⟨rfl, rfl⟩))

  go_wp2
  refine bodyPost_ret (results_cell_row (cs := #[.int .i64 p.id, .slice (some ⟨W.heap.size + 1 + 1, 0, none⟩) 14 14]) rfl _ _ (W.heap.size + 1) 89 (0, 0) _ rfl (three_mid W _ _ _) Tryz.underlying89 rfl Tryz.size89) rfl ?_
  exact ⟨W.heap.size + 1 + 1, rfl, three_grown W _ _ _, by omega, three_lt W _ _ _, fun j u hu => by rw [Nat.zero_add]; exact three_cell W _ _ 2 (ints p.fields).toArray j u (by rw [List.getElem?_toArray]; exact hu)⟩
end Go.Proofs.YtbilegkffooioaaGreatDoor
/-
  view.each: players and shots become rows.
-/
namespace Go.Proofs.YtbilegkffooioaaGreatDoor
open Go.RowKit

theorem rg_lit1 (w : World) (v : Rv) (t : TypeId) : Rg 2 Rv.cl (w.alloc (.cells v.cl.toArray t)) (w.heap.size + 1) (some ⟨w.heap.size, 0, none⟩) 1 [v] := by
  refine ⟨rfl, fun _ => ⟨w.heap.size, 0, rfl, by omega, fun j u hu => ?_⟩⟩
  rw [Nat.zero_add]
  have e1 := cell_of_row _ _ j v.cl.toArray t (0, 0) (heap_alloc_new w (.cells v.cl.toArray t))
  rw [e1, List.getElem?_toArray]
  simpa using hu

set_option maxHeartbeats 8000000 in
set_option maxRecDepth 1000000 in
/-- Each becomes a row. -/
theorem eachPlayer_calls (B n c : Nat) (A : Option Addr) (ps : List Pl) (hn : n ≤ 1000000) (w : World) (h : Rg 15 Pl.cl w B A n ps) (hB : B ≤ w.heap.size) :
    Calls Tryz.prog 29 #[.slice A n c, .func (.func 30) #[] #[]] w fun e w' => ∃ A' c', e = .returned (.slice A' n c') ∧ w.grownBy w' none ∧ RowsAt w' w.heap.size A' n (ps.map Pl.row) := by
  have HR := Lib.hid h
  have HPR : Hid (∀ (p : Pl) (W : World), Calls Tryz.prog 30 #[p.val] W fun e w' => ∃ g, e = .returned (.agg #[.int .i64 p.id, .slice (some ⟨g, 0, none⟩) 14 14]) ∧ W.grownBy w' none ∧ W.heap.size ≤ g ∧ g < w'.heap.size ∧ ∀ j u, (ints p.fields)[j]? = some u → w'.cell? ⟨g, 0 + j, none⟩ = some u) := playerRow_calls
  clear h
  go_enter Tryz.func29, Tryz.ntmps29
  go_wp2_with fail
  go_loopg [4, 9] n (fun kx s4 s9 wr => ∃ (k : Nat) (A' : Option Addr) (c' : Nat) (vs : List Rv), s4 = .slice A' k c' ∧ s9 = .int .i64 k ∧ k ≤ n ∧ n - k ≤ kx ∧ Hid (w.grownBy wr none) ∧ Hid (wr.ownsRow w.heap.size 89 2 (.slice A' k c') k (vs.flatMap Rv.cl)) ∧ Hid (vs.map Rv.row = (ps.take k).map Pl.row) ∧ Hid (∀ v ∈ vs, Fld wr w.heap.size (Value.slice A' k c').ownBlock v))
  case atStart => exact ⟨0, none, 0, [], rfl, rfl, by omega, by omega, World.grownBy.refl w none, World.ownsRow_nil w _ 89 2, Lib.hid (by simp), Lib.hid (by simp)⟩
  case round =>
    obtain ⟨k, A', c', vs, rfl, rfl, hk, hkx, HG, HO, HV, HF⟩ := hrel
    by_cases hlt : k < n
    · obtain ⟨b, off, p, rfl, hb, hx, hr⟩ := (HR.out.grown HG.out hB (by simp)).at_ Pl.cl_len hlt
      have HX := Lib.hid hx
      obtain ⟨c0, c1, c2, c3, c4, c5, c6, c7, c8, c9, c10, c11, c12, c13, c14⟩ := pl_cells hr
      have HP := Lib.hid (HPR.out p)
      clear hr hb hx
      have hbk : (k : Int) < (n : Int) := by omega
      go_wp2_with fail
      refine (HP.out _).mono ?_
      rintro _ w2 ⟨g, rfl, hg2, hg3, hg4, hg5⟩
      have HG2 := Lib.hid hg2
      have HG3 := Lib.hid hg3
      have HG4 := Lib.hid hg4
      have HG5 := Lib.hid hg5
      clear hg2 hg3 hg4 hg5
      go_wp2_with (at_builtin; refine wpList_append_rg rfl (.tmp 13) (.tmp 17) 85 rfl w.heap.size 89 (.agg #[.int .i64 0, .slice none 0 0]) 2 32 Rv.cl_len Tryz.underlying85 Tryz.info89 rfl (by decide) (.slice A' k c') k vs rfl (own_kept HO.out (((World.grownBy_alloc _ _ none).trans HG2.out).trans (World.grownBy_alloc _ _ none))) _ _ 1 1 [⟨p.id, some ⟨g, 0, none⟩, 14, p.fields⟩] rfl (rg_lit1 _ _ _) (Rv.one _) (k + 1) rfl (by simp only [maxLen]; omega) (by omega) ((((HG.out.trans (World.grownBy_alloc _ _ none)).trans HG2.out).trans (World.grownBy_alloc _ _ none)).size) ?_; intro A2 c2 w4 hown hgrow hat; have H1 := Lib.hid hown; have H2 := Lib.hid hgrow; have H3 := Lib.hid hat; clear hown hgrow hat)
      have HW : Hid (w.grownBy w4 none) := Lib.hid (grown_own (((HG.out.trans (World.grownBy_alloc _ _ none)).trans HG2.out).trans (World.grownBy_alloc _ _ none)) H2.out (fun j hj => (HO.out.lt j hj).1))
      go_roundg (n - (k + 1))
      case measure => omega
      case rel =>
        refine ⟨k + 1, A2, c2, vs ++ [⟨p.id, some ⟨g, 0, none⟩, 14, p.fields⟩], rfl, by go_num, by omega, by omega, HW, H1, ?_, ?_⟩
        · refine Lib.hid ?_
          rw [List.map_append, HV.out, List.take_add_one, HX.out]
          simp [Rv.row, Pl.row]
        · refine Lib.hid fun v hv => ?_
          rcases List.mem_append.1 hv with hv | hv
          · exact (((HF.out v hv).kept (((World.grownBy_alloc _ _ none).trans HG2.out).trans (World.grownBy_alloc _ _ none)))).grown H2.out H3.out
          · rw [List.mem_singleton] at hv
            subst hv
            have hlo := HG.out.size
            have h3 : wr.heap.size ≤ g := Nat.le_trans (World.grownBy_alloc wr _ none).size HG3.out
            refine Fld.grown ⟨g, rfl, by omega, Nat.lt_of_lt_of_le HG4.out (World.grownBy_alloc _ _ none).size, fun e => ?_, fun j u hu => (World.cell?_alloc_lt _ _ _ HG4.out).trans (HG5.out j u hu)⟩ H2.out H3.out
            have := (HO.out.lt g e.symm).2
            omega
    · obtain rfl : k = n := by omega
      have HQ := Lib.hid HR.out.1
      go_wp2
      go_ret
      refine ⟨_, _, rfl, HG.out, vs, ?_, own_rg Rv.cl_len (by decide) HO.out, fun v hv => ?_, fun ad e => (HO.out.lt ad.block (by rw [e]; rfl)).1⟩
      · rw [HV.out, List.take_of_length_le (by rw [HQ.out]; omega)]
      · obtain ⟨g, h1, h2, h3, _, h5⟩ := HF.out v hv
        exact ⟨g, h1, h2, h3, by simp, h5⟩

set_option maxHeartbeats 8000000 in
set_option maxRecDepth 1000000 in
/-- Each becomes a row. -/
theorem eachShot_calls (B n c : Nat) (A : Option Addr) (ps : List Sh) (hn : n ≤ 1000000) (w : World) (h : Rg 11 Sh.cl w B A n ps) (hB : B ≤ w.heap.size) :
    Calls Tryz.prog 31 #[.slice A n c, .func (.func 32) #[] #[]] w fun e w' => ∃ A' c', e = .returned (.slice A' n c') ∧ w.grownBy w' none ∧ RowsAt w' w.heap.size A' n (ps.map Sh.row) := by
  have HR := Lib.hid h
  have HPR : Hid (∀ (p : Sh) (W : World), Calls Tryz.prog 32 #[p.val] W fun e w' => ∃ g, e = .returned (.agg #[.int .i64 p.id, .slice (some ⟨g, 0, none⟩) 10 10]) ∧ W.grownBy w' none ∧ W.heap.size ≤ g ∧ g < w'.heap.size ∧ ∀ j u, (ints p.fields)[j]? = some u → w'.cell? ⟨g, 0 + j, none⟩ = some u) := shotRow_calls
  clear h
  go_enter Tryz.func31, Tryz.ntmps31
  go_wp2_with fail
  go_loopg [4, 9] n (fun kx s4 s9 wr => ∃ (k : Nat) (A' : Option Addr) (c' : Nat) (vs : List Rv), s4 = .slice A' k c' ∧ s9 = .int .i64 k ∧ k ≤ n ∧ n - k ≤ kx ∧ Hid (w.grownBy wr none) ∧ Hid (wr.ownsRow w.heap.size 89 2 (.slice A' k c') k (vs.flatMap Rv.cl)) ∧ Hid (vs.map Rv.row = (ps.take k).map Sh.row) ∧ Hid (∀ v ∈ vs, Fld wr w.heap.size (Value.slice A' k c').ownBlock v))
  case atStart => exact ⟨0, none, 0, [], rfl, rfl, by omega, by omega, World.grownBy.refl w none, World.ownsRow_nil w _ 89 2, Lib.hid (by simp), Lib.hid (by simp)⟩
  case round =>
    obtain ⟨k, A', c', vs, rfl, rfl, hk, hkx, HG, HO, HV, HF⟩ := hrel
    by_cases hlt : k < n
    · obtain ⟨b, off, p, rfl, hb, hx, hr⟩ := (HR.out.grown HG.out hB (by simp)).at_ Sh.cl_len hlt
      have HX := Lib.hid hx
      obtain ⟨c0, c1, c2, c3, c4, c5, c6, c7, c8, c9, c10⟩ := sh_cells hr
      have HP := Lib.hid (HPR.out p)
      clear hr hb hx
      have hbk : (k : Int) < (n : Int) := by omega
      go_wp2_with fail
      refine (HP.out _).mono ?_
      rintro _ w2 ⟨g, rfl, hg2, hg3, hg4, hg5⟩
      have HG2 := Lib.hid hg2
      have HG3 := Lib.hid hg3
      have HG4 := Lib.hid hg4
      have HG5 := Lib.hid hg5
      clear hg2 hg3 hg4 hg5
      go_wp2_with (at_builtin; refine wpList_append_rg rfl (.tmp 13) (.tmp 17) 85 rfl w.heap.size 89 (.agg #[.int .i64 0, .slice none 0 0]) 2 32 Rv.cl_len Tryz.underlying85 Tryz.info89 rfl (by decide) (.slice A' k c') k vs rfl (own_kept HO.out (((World.grownBy_alloc _ _ none).trans HG2.out).trans (World.grownBy_alloc _ _ none))) _ _ 1 1 [⟨p.id, some ⟨g, 0, none⟩, 10, p.fields⟩] rfl (rg_lit1 _ _ _) (Rv.one _) (k + 1) rfl (by simp only [maxLen]; omega) (by omega) ((((HG.out.trans (World.grownBy_alloc _ _ none)).trans HG2.out).trans (World.grownBy_alloc _ _ none)).size) ?_; intro A2 c2 w4 hown hgrow hat; have H1 := Lib.hid hown; have H2 := Lib.hid hgrow; have H3 := Lib.hid hat; clear hown hgrow hat)
      have HW : Hid (w.grownBy w4 none) := Lib.hid (grown_own (((HG.out.trans (World.grownBy_alloc _ _ none)).trans HG2.out).trans (World.grownBy_alloc _ _ none)) H2.out (fun j hj => (HO.out.lt j hj).1))
      go_roundg (n - (k + 1))
      case measure => omega
      case rel =>
        refine ⟨k + 1, A2, c2, vs ++ [⟨p.id, some ⟨g, 0, none⟩, 10, p.fields⟩], rfl, by go_num, by omega, by omega, HW, H1, ?_, ?_⟩
        · refine Lib.hid ?_
          rw [List.map_append, HV.out, List.take_add_one, HX.out]
          simp [Rv.row, Sh.row]
        · refine Lib.hid fun v hv => ?_
          rcases List.mem_append.1 hv with hv | hv
          · exact (((HF.out v hv).kept (((World.grownBy_alloc _ _ none).trans HG2.out).trans (World.grownBy_alloc _ _ none)))).grown H2.out H3.out
          · rw [List.mem_singleton] at hv
            subst hv
            have hlo := HG.out.size
            have h3 : wr.heap.size ≤ g := Nat.le_trans (World.grownBy_alloc wr _ none).size HG3.out
            refine Fld.grown ⟨g, rfl, by omega, Nat.lt_of_lt_of_le HG4.out (World.grownBy_alloc _ _ none).size, fun e => ?_, fun j u hu => (World.cell?_alloc_lt _ _ _ HG4.out).trans (HG5.out j u hu)⟩ H2.out H3.out
            have := (HO.out.lt g e.symm).2
            omega
    · obtain rfl : k = n := by omega
      have HQ := Lib.hid HR.out.1
      go_wp2
      go_ret
      refine ⟨_, _, rfl, HG.out, vs, ?_, own_rg Rv.cl_len (by decide) HO.out, fun v hv => ?_, fun ad e => (HO.out.lt ad.block (by rw [e]; rfl)).1⟩
      · rw [HV.out, List.take_of_length_le (by rw [HQ.out]; omega)]
      · obtain ⟨g, h1, h2, h3, _, h5⟩ := HF.out v hv
        exact ⟨g, h1, h2, h3, by simp, h5⟩
end Go.Proofs.YtbilegkffooioaaGreatDoor
