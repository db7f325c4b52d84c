/-
  **view.read**: rows, from nothing.
-/
import Derived.Test.YtbilegkffooioaaGreatDoorM05
namespace Go.Proofs.YtbilegkffooioaaGreatDoor
open Go.RowKit

theorem frm_grown {a b c : World} {g gf : Nat} (h : a.grownBy b none) (k : Frm b c g (some gf)) (hgf : a.heap.size ≤ gf) : a.grownBy c (some g) :=
  ⟨k.os.trans h.os, k.tape.trans h.tape, k.output.trans h.output, Nat.le_trans h.size k.size, fun i hi hn => (k.block i (Nat.lt_of_lt_of_le hi h.size) (fun e => hn (by rw [e])) (by intro e; injection e with e; omega)).trans (h.block i hi (by simp))⟩
/-- While rows are read. -/
structure RSt (w wr : World) (gr gb : Nat) (l : List Nat) (a : Nat) (s : Array Value) (A : Option Addr) (k c : Nat) (vs : List Rv) : Prop where
  st : Rst wr gr gb l a
  fr : w.grownBy wr (some gb)
  b0 : Blk wr w.heap.size 83 s
  own : wr.ownsRow (w.heap.size + 1) 89 2 (.slice A k c) k (vs.flatMap Rv.cl)
  fl : ∀ v ∈ vs, Fld wr w.heap.size (Value.slice A k c).ownBlock v
  lo : gb < w.heap.size
  cp : ∀ v ∈ vs, v.fields.length ≤ v.cap
section
variable {w wr w' : World} {gr gb a a' k c : Nat} {l : List Nat} {s : Array Value} {A : Option Addr} {vs : List Rv}
theorem RSt.next (h : RSt w wr gr gb l a s A k c vs) (hg : wr.grownBy w' (some gb)) (hst : Rst w' gr gb l a') : RSt w w' gr gb l a' s A k c vs := by
  have hlo := h.lo
  refine ⟨hst, only_trans h.fr hg, h.b0.grown hg (by intro e; injection e with e; omega), h.own.kept hg ?_, fun v hv => ?_, hlo, h.cp⟩
  · by_cases hn : (Value.slice A k c).ownBlock = none
    · exact .inl hn
    · exact .inr fun e => by have := (h.own.lt _ e).1; omega
  · obtain ⟨g, h1, h2, h3, h4, h5⟩ := h.fl v hv
    have hne : some g ≠ some gb := by intro e; injection e with e; omega
    exact ⟨g, h1, h2, Nat.lt_of_lt_of_le h3 hg.size, h4, fun j u hu => (World.cell?_of_block (a := ⟨g, 0 + j, none⟩) (hg.block g h3 hne)).trans (h5 j u hu)⟩
theorem RSt.ins {A' : Option Addr} {c' : Nat} {q : Rv} (h : RSt w wr gr gb l a s A k c vs) (hgr : gr < w.heap.size) (h1 : w'.ownsRow (w.heap.size + 1) 89 2 (.slice A' (k + 1) c') (k + 1) ((vs ++ [q]).flatMap Rv.cl)) (h2 : wr.grownBy w' (Value.slice A k c).ownBlock)
    (h3 : (Value.slice A' (k + 1) c').ownBlock = (Value.slice A k c).ownBlock ∨ (Value.slice A' (k + 1) c').ownBlock = some wr.heap.size) (hq : Fld wr w.heap.size (Value.slice A k c).ownBlock q) (hqc : q.fields.length ≤ q.cap) : RSt w w' gr gb l a s A' (k + 1) c' (vs ++ [q]) := by
  have hlo := h.lo
  have hsz := h.fr.size
  have hne : ∀ j, j ≤ w.heap.size → some j ≠ (Value.slice A k c).ownBlock := fun j hj e => by have := (h.own.lt _ e.symm).1; omega
  refine ⟨h.st.keep (fun j hj => h2.block j (by omega) (hne j (by omega))) (h2.block gr (by omega) (hne gr (by omega))), ?_, h.b0.grown h2 (hne _ (Nat.le_refl _)), h1, fun v hv => ?_, h.lo, fun v hv => by
    rcases List.mem_append.1 hv with hv | hv
    · exact h.cp v hv
    · rw [List.mem_singleton] at hv; rw [hv]; exact hqc⟩
  · exact ⟨h2.os.trans h.fr.os, h2.tape.trans h.fr.tape, h2.output.trans h.fr.output, Nat.le_trans h.fr.size h2.size, fun j hj hn => (h2.block j (by omega) (hne j (by omega))).trans (h.fr.block j hj hn)⟩
  · rcases List.mem_append.1 hv with hv | hv
    · exact (h.fl v hv).grown h2 h3
    · rw [List.mem_singleton] at hv
      subst hv
      exact hq.grown h2 h3
theorem RSt.grown (h : RSt w wr gr gb l a s A k c vs) (hg : wr.grownBy w' none) : RSt w w' gr gb l a s A k c vs := h.next (none_some hg) (h.st.grown hg)
end

/-- A frame, some slots written. -/
def putsR (a : Act) : List (Nat × Value) → Act
  | [] => a
  | x :: r => putsR (a.put (some x.1) x.2) r
/-- What a region leaves, where it does not panic. -/
def LeavesN (F : Nat → Nat → Nat → Act) (I : Nat → Nat → Nat → World → Prop) : Exit → Act → World → Prop
  | .normal, a, w => ∃ x y z, a = F x y z ∧ I x y z w
  | _, _, _ => False
theorem LeavesN.mk {F : Nat → Nat → Nat → Act} {I : Nat → Nat → Nat → World → Prop} {a : Act} {w : World} (x y z : Nat) (ha : a = F x y z) (hi : I x y z w) : LeavesN F I .normal a w := ⟨x, y, z, ha, hi⟩
/-- A region by what it leaves. -/
theorem region_leavesN {P : Program} {id : Nat} {ops : Array Oper} {m : Bool} {Q : Exit → Act → World → Prop} {a : Act} {w : World} (l : Nat → Nat → Nat → List (Nat × Value)) (I : Nat → Nat → Nat → World → Prop)
    (h : (Code.region id ops m).wp P (LeavesN (fun x y z => putsR a (l x y z)) I) a w) (hq : ∀ x y z w', I x y z w' → Q .normal (putsR a (l x y z)) w') : (Code.region id ops m).wp P Q a w :=
  Code.wp_mono (fun e a' w' h => by
    cases e with
    | normal => obtain ⟨x, y, z, ha, hi⟩ := h; subst ha; exact hq x y z w' hi
    | _ => exact h.elim) h
theorem alloc_facts {w w7 : World} {u v : Value} {t : TypeId} (hg : (w.alloc (.cells #[u, v] t)).drew.grownBy w7 none) : Blk w7 w.heap.size t #[u, v] := (Blk.new w t #[u, v]).grown (drew_grown hg) (by simp)
/-- What lies behind a copy of fields. -/
structure ClSt (w6 W : World) (id : Int) (fs : List Int) (gf cf b12 : Nat) : Prop where
  gr : w6.grownBy W none
  blk : Blk W b12 89 #[.int .i64 id, .slice (some ⟨gf, 0, none⟩) fs.length cf]
  cur : CurF W gf 2 fs 0
  lo : w6.heap.size ≤ gf
  lo12 : w6.heap.size ≤ b12
  cap : fs.length ≤ cf
theorem own_capI {w : World} {base g n c sz : Nat} {e : TypeId} {xs : List Value} (h : w.ownsRow base e sz (.slice (some ⟨g, 0, none⟩) n c) n xs) : n ≤ c := by
  rcases h.2 with ⟨hv, _⟩ | ⟨g', cap', cur, hv, hb, hh, hn, hm, hs, ht⟩
  · cases hv
  · injection hv with h1 h2 h3
    subst h3
    exact hn
theorem own_cur {w : World} {base n c gf : Nat} {fs : List Int} (h : w.ownsRow base 2 1 (.slice (some ⟨gf, 0, none⟩) n c) n (ints (zeros fs.length))) : CurF w gf 2 fs 0 := by
  rcases h.2 with ⟨hv, _⟩ | ⟨g', cap', cur, hv, hb, hh, hn, hm, hs, ht⟩
  · cases hv
  · injection hv with h1 h2 h3
    injection h1 with h1
    injection h1 with h1
    subst h1
    refine ⟨cur, hh, fun j x hj => ?_⟩
    have hl := (List.getElem?_eq_some_iff.1 hj).1
    have hz : (ints (zeros fs.length))[j]? = some (.int .i64 0) := by simp [ints, zeros, hl]
    have := h.cells (g := gf) rfl j _ hz
    rw [Addr.add_lit, Nat.zero_add, (show Blk w gf 2 cur from hh).cell j] at this
    rw [if_neg (by omega)]
    exact this
theorem cur_ne {W : World} {gf b : Nat} {fs : List Int} {i : Nat} {cs : Array Value} (h : CurF W gf 2 fs i) (hb : Blk W b 89 cs) : gf ≠ b := fun e => by
  obtain ⟨C, hC, _⟩ := h
  rw [e] at hC
  have := hC.symm.trans hb
  injection this with this
  injection this with _ h _
  cases h
theorem clSt_a {w6 w7 : World} {id : Int} {fs : List Int} {gf cf base : Nat} (hg : w6.grownBy w7 none) (ho : w7.ownsRow base 2 1 (.slice (some ⟨gf, 0, none⟩) fs.length cf) fs.length (ints (zeros fs.length))) (hlo : w6.heap.size ≤ gf) :
    ClSt w6 (w7.alloc (.cells #[.int .i64 id, .slice (some ⟨gf, 0, none⟩) fs.length cf] 89)) id fs gf cf w7.heap.size :=
  ⟨hg.trans (World.grownBy_alloc _ _ none), Blk.new w7 89 _, (own_cur ho).grown (World.grownBy_alloc _ _ none) (by simp), hlo, hg.size, own_capI ho⟩
theorem clSt_b {w6 w7 : World} {id : Int} {fs : List Int} {gf cf base b12 : Nat} {u v : Value} (hg : w6.grownBy w7 none) (ho : w7.ownsRow base 2 1 (.slice (some ⟨gf, 0, none⟩) fs.length cf) fs.length (ints (zeros fs.length))) (hlo : w6.heap.size ≤ gf) (hb : Blk w7 b12 89 #[u, v]) (hlo12 : w6.heap.size ≤ b12) :
    ClSt w6 ((w7.setCell ⟨b12, 0, none⟩ (.int .i64 id)).setCell ⟨b12, 1, none⟩ (.slice (some ⟨gf, 0, none⟩) fs.length cf)) id fs gf cf b12 := by
  have hne : gf ≠ b12 := fun e => by
    obtain ⟨C, hC, _⟩ := own_cur ho
    rw [e] at hC
    have := hC.symm.trans hb
    injection this with this
    injection this with _ h _
    cases h
  obtain ⟨C, hC, hc⟩ := own_cur ho
  exact ⟨set_lo (set_lo hg hlo12 0 _) hlo12 1 _, ((hb.put 0 _).put 1 _).of_ rfl, ⟨C, Blk.other (Blk.other hC 0 _ hne) 1 _ hne, hc⟩, hlo, hlo12, own_capI ho⟩

/-- Rows in memory, their fields' slices whole. -/
def RowsC (w : World) (lo : Nat) (A : Option Addr) (n : Nat) (rs : List Rw) : Prop := ∃ vs : List Rv, vs.map Rv.row = rs ∧ Rg 2 Rv.cl w w.heap.size A n vs ∧ (∀ v ∈ vs, Fld w lo none v) ∧ ∀ v ∈ vs, v.fields.length ≤ v.cap
set_option maxHeartbeats 16000000 in
set_option maxRecDepth 1000000 in
theorem read_calls (nf fl : Nat) (most : Int) (hNone : FindNone nf fl most) (gr gb N : Nat) (bs p r : List Bool) (rs : List Rw) (w : World) (h : Rst w gr gb (pk bs N) p.length) (hbs : bs = p ++ (rowsBits fl rs ++ r)) (hN : bs.length ≤ 8 * N)
    (hr : rightB most rs = true) (hlen : ∀ q ∈ rs, q.fields.length = nf) (hnf : 0 < nf ∧ nf ≤ 14) (hflag : ∀ q ∈ rs, ∀ x, q.fields[fl]? = some x → x = 0 ∨ x = 1) (hn64 : rs.length ≤ 64) :
    Calls Tryz.prog 49 #[.agg #[.int .i64 nf, .int .i64 fl, .int .i64 most], .pointer (some ⟨gr, 0, none⟩), .slice none 0 0] w fun e w' => ∃ A' c', e = .returned (.slice A' rs.length c') ∧ RowsC w' w.heap.size A' rs.length rs ∧ Rst w' gr gb (pk bs N) (p.length + (rowsBits fl rs).length) ∧ w.grownBy w' (some gb) := by
  obtain ⟨hasc, hids, hmost⟩ := right_facts hr
  have HNONE := Lib.hid hNone
  have H := Lib.hid h
  have HBS := Lib.hid hbs
  have HN := Lib.hid hN
  have HASC := Lib.hid hasc
  have HIDS := Lib.hid hids
  have HLEN := Lib.hid hlen
  have HFLAG := Lib.hid hflag
  have HGBL : Hid (gb < w.heap.size) := Lib.hid h.rr.lt
  have HGRL : Hid (gr < w.heap.size) := Lib.hid h.blk.lt
  have HGBR : Hid (gb < gr) := Lib.hid h.lt
  obtain ⟨n, hn⟩ : ∃ n, rs.length = n := ⟨_, rfl⟩
  have HNL := Lib.hid hn
  rw [hn] at hmost hn64 ⊢
  obtain ⟨hnf0, hnf14⟩ := hnf
  clear hNone h hbs hN hr hlen hflag hasc hids hn
  go_enter Tryz.func49, Tryz.ntmps49
  go_wp2_with fail
  refine (cloneRows_calls 0 _).mono ?_
  rintro e w1 ⟨rfl, hg1⟩
  have hg1' := (World.grownBy_alloc w (.cells #[.int .i64 nf, .int .i64 fl, .int .i64 most] 83) none).trans hg1
  have HST : Hid (RSt w w1 gr gb (pk bs N) (p.length + (entsBits fl rs 0).length) #[.int .i64 nf, .int .i64 fl, .int .i64 most] none 0 0 []) := Lib.hid ⟨by have := H.out.grown hg1'; simpa [entsBits] using this, none_some hg1', (Blk.new w 83 _).grown hg1 (by simp), World.ownsRow_nil _ _ 89 2, by simp, HGBL.out, by simp⟩
  clear hg1 hg1'
  go_wp2_with fail
  go_loopg [7, 8] n (fun kx s7 s8 wr => ∃ (k c : Nat) (A : Option Addr) (last : Int) (vs : List Rv), s7 = .slice A k c ∧ s8 = .int .i64 last ∧ k ≤ n ∧ n - k ≤ kx ∧ Hid (vs.map Rv.row = rs.take k) ∧ Hid (∀ j x, rs[j]? = some x → k ≤ j → last < x.id) ∧ Hid (RSt w wr gr gb (pk bs N) (p.length + (entsBits fl rs k).length) #[.int .i64 nf, .int .i64 fl, .int .i64 most] A k c vs))
  case atStart => exact ⟨0, 0, none, 0, [], rfl, rfl, by omega, by omega, Lib.hid (by simp), Lib.hid (fun j x hx _ => (HIDS.out x (List.mem_of_getElem? hx)).1), HST⟩
  case round =>
    obtain ⟨k, c, A, last, vs, rfl, rfl, hk, hkx, HVS, HLAST, HT⟩ := hrel
    have HPL : Hid ((p ++ entsBits fl rs k).length = p.length + (entsBits fl rs k).length) := Lib.hid List.length_append
    by_cases hlt : k < n
    · obtain ⟨q, hq⟩ : ∃ q, rs[k]? = some q := ⟨rs[k]'(by rw [HNL.out]; exact hlt), List.getElem?_eq_getElem _⟩
      obtain ⟨id, fs⟩ := q
      have hqm := List.mem_of_getElem? hq
      obtain ⟨hid0, hid1, hwide⟩ := HIDS.out _ hqm
      have hfl : fs.length = nf := HLEN.out _ hqm
      have hfg := HFLAG.out _ hqm
      have hla : last < id := HLAST.out k _ hq (Nat.le_refl _)
      simp only at hid0 hid1 hwide hfg
      subst hfl
      have HQ := Lib.hid hq
      have HQM := Lib.hid hqm
      have HWIDE := Lib.hid hwide
      have HFG := Lib.hid hfg
      obtain ⟨im, him⟩ : ∃ im : Nat, id.toNat = im := ⟨_, rfl⟩
      have hsp : bs = (p ++ entsBits fl rs k) ++ (true :: (hb im 31 ++ (false :: fldsBits fl fs fs.length))) ++ (entsTail fl rs (k + 1) ++ r) := by
        rw [HBS.out, rows_split fl rs k, entsTail_cons fl rs k _ hq, ← him]
        unfold entBits
        simp only [List.append_assoc]
      obtain ⟨a, ha⟩ : ∃ a, p.length + (entsBits fl rs k).length = a := ⟨_, rfl⟩
      have hpl : (p ++ entsBits fl rs k).length = a := by rw [HPL.out, ha]
      rw [ha] at HT
      have HA := Lib.hid ha
      have hg1 : got (pk bs N) a 1 = (if true then 1 else 0, true, a + 1) := by
        have e : bs = (p ++ entsBits fl rs k) ++ true :: ((hb im 31 ++ (false :: fldsBits fl fs fs.length)) ++ (entsTail fl rs (k + 1) ++ r)) := by
          rw [hsp]; simp only [List.append_assoc, List.cons_append]
        have hl := HN.out
        rw [e] at hl ⊢
        exact got_bit _ _ true N _ hpl hl
      have hg2 : got (pk bs N) (a + 1) (inn 31) = (im, true, a + 1 + 31) := by
        have e : bs = (p ++ entsBits fl rs k ++ [true]) ++ hb im 31 ++ ((false :: fldsBits fl fs fs.length) ++ (entsTail fl rs (k + 1) ++ r)) := by
          rw [hsp]; simp only [List.append_assoc, List.cons_append, List.nil_append]
        have hl := HN.out
        rw [e] at hl ⊢
        have := got_at (p ++ entsBits fl rs k ++ [true]) ((false :: fldsBits fl fs fs.length) ++ (entsTail fl rs (k + 1) ++ r)) im 31 N (a + 1) (by rw [List.length_append, hpl]; rfl) hl
        rw [show im % 2 ^ 31 = im from Nat.mod_eq_of_lt (by omega)] at this
        exact this
      have hg3 : got (pk bs N) (a + 1 + 31) 1 = (if false then 1 else 0, true, a + 1 + 31 + 1) := by
        have e : bs = (p ++ entsBits fl rs k ++ [true] ++ hb im 31) ++ false :: (fldsBits fl fs fs.length ++ (entsTail fl rs (k + 1) ++ r)) := by
          rw [hsp]; simp only [List.append_assoc, List.cons_append, List.nil_append]
        have hl := HN.out
        rw [e] at hl ⊢
        exact got_bit _ _ false N _ (by rw [List.length_append, List.length_append, hpl, hb_len]; rfl) hl
      have HBF : Hid (bs = (p ++ entsBits fl rs k ++ [true] ++ hb im 31 ++ [false]) ++ (fldsBits fl fs fs.length ++ (entsTail fl rs (k + 1) ++ r))) := Lib.hid (by rw [hsp]; simp only [List.append_assoc, List.cons_append, List.nil_append])
      have HPF : Hid ((p ++ entsBits fl rs k ++ [true] ++ hb im 31 ++ [false]).length = a + 1 + 31 + 1) := Lib.hid (by simp only [List.length_append, hpl, hb_len, List.length_cons, List.length_nil])
      have HAK : Hid (p.length + (entsBits fl rs (k + 1)).length = a + 1 + 31 + 1 + (fldsBits fl fs fs.length).length) := Lib.hid (by
        rw [entsBits_succ fl rs k _ hq, List.length_append, ← Nat.add_assoc, ha]
        unfold entBits
        simp only [List.length_cons, List.length_append, hb_len]
        omega)
      have himd : (im : Int) = id := by omega
      have HM1 := Lib.hid (more_calls gr gb _ _ true wr HT.out.st hg1)
      have HG2 := Lib.hid hg2
      have HG3 := Lib.hid hg3
      clear hq hqm hwide hfg him hsp ha hpl hg1 hg2 hg3 HPL
      go_wp2_with fail
      refine HM1.out.mono ?_
      rintro e w2 ⟨rfl, hr2, hg2⟩
      have HT2 := Lib.hid (HT.out.next hg2 hr2)
      have HN2 : Hid (Calls Tryz.prog 108 #[.pointer (some ⟨gr, 0, none⟩), .int .i64 31] w2 fun e w' => e = .returned (.int .i64 id) ∧ Rst w' gr gb (pk bs N) (a + 1 + 31) ∧ w2.grownBy w' (some gb)) := by
        have := number_calls gr gb (pk bs N) (a + 1) 31 w2 hr2 im (a + 1 + 31) HG2.out (by omega)
        rw [himd] at this
        exact Lib.hid this
      clear hr2 hg2
      go_wp2_with fail
      refine HN2.out.mono ?_
      rintro e w3 ⟨rfl, hr3, hg3⟩
      have HT3 := Lib.hid ((HT2.out.next hg3 hr3).grown (World.grownBy_alloc w3 (.cells #[.int .i64 id] 3) none))
      have HB9 := Lib.hid (Blk.new w3 3 #[.int .i64 id])
      have HL3 : Hid (gb < w3.heap.size) := Lib.hid (by have := HGBL.out; have := HT2.out.fr.size; have := hg3.size; omega)
      clear hr3 hg3
      go_wp2_with fail
      refine (fail_calls gr 3 _).mono ?_
      rintro e w4 ⟨rfl, rfl⟩
      have b0 := HT3.out.b0.cell 0
      have b1 := HT3.out.b0.cell 1
      have b2 := HT3.out.b0.cell 2
      go_wp2_with fail
      refine (HNONE.out id _).mono ?_
      rintro e w5 ⟨g0, rfl, hg5, hlo5, hhi5, hz5⟩
      have HT5 := Lib.hid (HT3.out.grown (hg5.trans (World.grownBy_alloc w5 (.cells #[.int .i64 id, .slice (some ⟨g0, 0, none⟩) fs.length fs.length] 89) none)))
      have HZ5 := Lib.hid (hz5.alloc (.cells #[.int .i64 id, .slice (some ⟨g0, 0, none⟩) fs.length fs.length] 89))
      have HB95 := Lib.hid ((HB9.out.grown hg5 (by simp)).alloc (.cells #[.int .i64 id, .slice (some ⟨g0, 0, none⟩) fs.length fs.length] 89))
      have HB10 := Lib.hid (Blk.new w5 89 #[.int .i64 id, .slice (some ⟨g0, 0, none⟩) fs.length fs.length])
      have HL5 : Hid (gb < w5.heap.size) := Lib.hid (by have := HL3.out; have := hg5.size; have := (World.grownBy_alloc w3 (.cells #[.int .i64 id] 3) none).size; omega)
      have HG0 : Hid (gb < g0) := Lib.hid (by have := HL3.out; have := (World.grownBy_alloc w3 (.cells #[.int .i64 id] 3) none).size; omega)
      have HM5 := Lib.hid (more_calls gr gb _ _ false _ HT5.out.st HG3.out)
      clear hg5 hlo5 hhi5 hz5 b0 b1 b2
      go_wp2_with fail
      refine HM5.out.mono ?_
      rintro e w6 ⟨rfl, hr6, hg6⟩
      have HT6 := Lib.hid (HT5.out.next hg6 hr6)
      have HZ6 := Lib.hid (HZ5.out.grown hg6 (by intro e; injection e with e; have := HG0.out; omega))
      have HB96 := Lib.hid (HB95.out.grown hg6 (by intro e; injection e with e; have := HL3.out; omega))
      have HB106 := Lib.hid (HB10.out.grown hg6 (by intro e; injection e with e; have := HL5.out; omega))
      have c9 := HB96.out.cell 0
      have c10 := HB106.out.cell 1
      clear hr6 hg6
      go_wp2_with fail
      obtain ⟨b9, hb9⟩ : ∃ b, w3.heap.size = b := ⟨_, rfl⟩
      obtain ⟨b10, hb10⟩ : ∃ b, w5.heap.size = b := ⟨_, rfl⟩
      rw [hb9] at c9 HL3 ⊢
      rw [hb10] at c10 HL5 ⊢
      have n9 : ¬ (w6.heap.size = b9) := by have : b9 < w6.heap.size := World.block_lt_of_cell? w6 _ c9; omega
      have n10 : ¬ (w6.heap.size = b10) := by have : b10 < w6.heap.size := World.block_lt_of_cell? w6 _ c10; omega
      clear hb9 hb10 HB9 HB95 HB96 HB10 HB106 HZ5 HT3 HT5 HM1 HM5 HN2
      refine region_leavesN (fun gf cf b12 => [(43, .int .i64 id), (44, .pointer (some ⟨b10, 1, none⟩)), (45, .slice (some ⟨g0, 0, none⟩) fs.length fs.length), (46, .slice (some ⟨gf, 0, none⟩) fs.length cf), (47, .agg #[.int .i64 id, .slice (some ⟨gf, 0, none⟩) fs.length cf]), (12, .pointer (some ⟨b12, 0, none⟩))])
        (fun gf cf b12 W => ClSt w6 W id fs gf cf b12) ?_ ?_
      · go_region_held3 (fun W => W.cell? ⟨b9, 0, none⟩ = some (.int .i64 id) ∧ W.cell? ⟨b10, 1, none⟩ = some (.slice (some ⟨g0, 0, none⟩) fs.length fs.length)) (go_keep)
          (first
            | (go_at_call 111; refine (cloneF_calls g0 fs.length fs.length (zeros fs.length) _ (by simp [zeros]) (by omega) hnf0 (HZ6.out.grown (by first | exact grown_drew (World.grownBy_alloc _ _ none) | exact grown_drew (World.grownBy.refl _ none)) (by simp))).mono ?_; rintro e w7 ⟨gf, cf, rfl, hg, hlo, _, ho⟩; have HO7 := Lib.hid ho; have hw6 : w6.grownBy w7 none := World.grownBy.trans (by first | exact grown_drew (World.grownBy_alloc _ _ none) | exact grown_drew (World.grownBy.refl _ none)) hg; have HW6 := Lib.hid hw6; have HLG : Hid (w6.heap.size ≤ gf) := Lib.hid (Nat.le_trans (World.grownBy.size (w := w6) (row := none) (by first | exact grown_drew (World.grownBy_alloc _ _ none) | exact grown_drew (World.grownBy.refl _ none))) hlo); have k9 := grown_at hw6 b9 0 _ c9 (World.block_lt_of_cell? w6 _ c9) (by simp); have k10 := grown_at hw6 b10 1 _ c10 (World.block_lt_of_cell? w6 _ c10) (by simp); have hk7 := And.intro k9 k10; (try (have hz := alloc_facts hg; have z0 := hz.cell 0; have z1 := hz.cell 1; have y0 := hz.free 0; have y1 := hz.free 1; have HZ12 := Lib.hid hz; clear hz)); clear hg hlo ho hw6))
        all_goals first
          | (refine LeavesN.mk gf cf w7.heap.size ?_ (clSt_a HW6.out HO7.out HLG.out); simp only [putsR, Act.put, List.setIfInBounds_toArray, List.set_cons_zero, List.set_cons_succ])
          | (refine LeavesN.mk gf cf w6.heap.size ?_ (clSt_b HW6.out HO7.out HLG.out HZ12.out (Nat.le_refl _)); simp only [putsR, Act.put, List.setIfInBounds_toArray, List.set_cons_zero, List.set_cons_succ])
      intro gf cf b12 W7 hcl
      have HCL := Lib.hid hcl
      have HT7 := Lib.hid (HT6.out.grown hcl.gr)
      have H6S : Hid (w.heap.size ≤ w6.heap.size) := Lib.hid HT6.out.fr.size
      have hgb : gb < gf := by have := hcl.lo; have := HGBL.out; have := H6S.out; omega
      have hgr : gf ≠ gr := by have := hcl.lo; have := HGRL.out; have := H6S.out; omega
      have d0 := hcl.blk.cell 0
      have d1 := hcl.blk.cell 1
      have s0 := HT7.out.b0.cell 0
      have s1 := HT7.out.b0.cell 1
      have s2 := HT7.out.b0.cell 2
      have HCH := Lib.hid (changed_calls fl most gr gb gf cf 2 bs _ _ N fs HBF.out HN.out W7 (by rw [HPF.out]; exact HT7.out.st) HWIDE.out HFG.out (by omega) hcl.cur hgb hgr)
      rw [HPF.out] at HCH
      obtain ⟨some_, hsome⟩ : ∃ b, (fs.any fun x => x != 0) = b := ⟨_, rfl⟩
      rw [hsome] at HCH
      simp only [putsR, Act.put, List.setIfInBounds_toArray, List.set_cons_zero, List.set_cons_succ]
      clear hcl hsome hgb hgr
      rcases some_ with _ | _
      all_goals
        go_wp2_with fail
        refine HCH.out.mono ?_
        rintro e w8 ⟨rfl, hr8, hc8, hf8⟩
        have hg68 := frm_grown HCL.out.gr hf8 HCL.out.lo
        have HT8 := Lib.hid (HT6.out.next hg68 hr8)
        have hne12 := cur_ne HCL.out.cur HCL.out.blk
        have HB12 : Hid (Blk w8 b12 89 #[.int .i64 id, .slice (some ⟨gf, 0, none⟩) fs.length cf]) := Lib.hid ((hf8.block b12 HCL.out.blk.lt (by have := HCL.out.lo12; have := HGBL.out; have := H6S.out; omega) (by intro e; injection e with e; exact hne12 e.symm)).trans HCL.out.blk)
        have c98 := grown_at hg68 b9 0 _ c9 (World.block_lt_of_cell? w6 _ c9) (by intro e; injection e with e; have := HL3.out; omega)
        have HDONE := Lib.hid hc8.done
        have HGF8 : Hid (gf < w8.heap.size) := Lib.hid hc8.lt
        have hids : ∀ v ∈ vs, v.id < id := fun v hv => by
          obtain ⟨j, hj, hjv⟩ := List.mem_iff_getElem.1 hv
          have hm : (vs.map Rv.row)[j]? = some v.row := by rw [List.getElem?_map, List.getElem?_eq_getElem hj, hjv]; rfl
          rw [HVS.out, List.getElem?_take] at hm
          split at hm
          · rename_i hjk
            obtain ⟨hjl, hje⟩ := List.getElem?_eq_some_iff.1 hm
            obtain ⟨hkl, hke⟩ := List.getElem?_eq_some_iff.1 HQ.out
            have := List.pairwise_iff_getElem.1 HASC.out j k hjl hkl hjk
            rw [hje, hke] at this
            exact this
          · cases hm
        have HBE := Lib.hid (behind_calls k c A id vs (by omega) w8 (own_rg Rv.cl_len (by decide) HT8.out.own) hids)
        clear hr8 hc8 hf8 hg68 hne12 hids d0 d1 s0 s1 s2
        go_wp2_with fail
        refine (fail_calls gr 3 w8).mono ?_
        rintro e w9 ⟨rfl, rfl⟩
        go_wp2_with fail
        refine HBE.out.mono ?_
        rintro e w9 ⟨rfl, hg9⟩
        have HT9 := Lib.hid (HT8.out.grown (hg9.trans (World.grownBy_alloc w9 (.cells #[.int .i64 id, .slice (some ⟨gf, 0, none⟩) fs.length cf] 89) none)))
        have hb12 := HB12.out.grown hg9 (by simp)
        have f0 := hb12.cell 0
        have f1 := hb12.cell 1
        have HFLD : Hid (Fld (w9.alloc (.cells #[.int .i64 id, .slice (some ⟨gf, 0, none⟩) fs.length cf] 89)) w.heap.size (Value.slice A k c).ownBlock ⟨id, some ⟨gf, 0, none⟩, cf, fs⟩) := Lib.hid (by
          have hgw := hg9.trans (World.grownBy_alloc w9 (.cells #[.int .i64 id, .slice (some ⟨gf, 0, none⟩) fs.length cf] 89) none)
          refine ⟨gf, rfl, by have := HCL.out.lo; have := H6S.out; omega, Nat.lt_of_lt_of_le HGF8.out hgw.size, fun e => by have := (HT6.out.own.lt _ e.symm).2; have := HCL.out.lo; omega, fun j u hu => ?_⟩
          exact grown_at hgw _ _ _ (HDONE.out j u hu) HGF8.out (by simp))
        have HINS := Lib.hid (insert_calls (w.heap.size + 1) k c w9.heap.size A vs ⟨id, some ⟨gf, 0, none⟩, cf, fs⟩ _ HT9.out.own (by omega) ((rg_lit1 w9 ⟨id, some ⟨gf, 0, none⟩, cf, fs⟩ 89).more (by simp)) (by have := HT9.out.fr.size; have := HT9.out.b0.lt; omega))
        clear hg9 hb12 c98
        go_wp2_with fail
        refine HINS.out.mono ?_
        rintro e w10 ⟨A', c', rfl, p1, p2, p3⟩
        have HT10 := Lib.hid (HT9.out.ins HGRL.out p1 p2 p3 HFLD.out HCL.out.cap)
        have HVS2 : Hid ((vs ++ [(⟨id, some ⟨gf, 0, none⟩, cf, fs⟩ : Rv)]).map Rv.row = rs.take (k + 1)) := Lib.hid (by rw [List.map_append, HVS.out, List.take_add_one, HQ.out]; rfl)
        have HLA2 : Hid (∀ j x, rs[j]? = some x → k + 1 ≤ j → id < x.id) := Lib.hid fun j x hx hj => by
          obtain ⟨hjl, hje⟩ := List.getElem?_eq_some_iff.1 hx
          obtain ⟨hkl, hke⟩ := List.getElem?_eq_some_iff.1 HQ.out
          have := List.pairwise_iff_getElem.1 HASC.out k j hkl hjl (by omega)
          rw [hje, hke] at this
          exact this
        clear p1 p2 p3
        go_wp2_with fail
        go_roundg (n - (k + 1))
        case measure => omega
        case rel =>
          refine ⟨k + 1, c', A', id, vs ++ [⟨id, some ⟨gf, 0, none⟩, cf, fs⟩], rfl, rfl, by omega, by omega, HVS2, HLA2, ?_⟩
          rw [HAK.out]
          exact HT10
    · obtain rfl : k = n := by omega
      have hgt : got (pk bs N) (p.length + (entsBits fl rs k).length) 1 = (if false then 1 else 0, true, p.length + (entsBits fl rs k).length + 1) := by
        have e : bs = (p ++ entsBits fl rs k) ++ false :: r := by
          rw [HBS.out, rows_split fl rs k, entsTail_end fl rs k (by rw [HNL.out]; exact Nat.le_refl _)]; simp
        have hl := HN.out
        rw [e] at hl ⊢
        exact got_bit _ _ false N _ HPL.out hl
      have HM := Lib.hid (more_calls gr gb _ _ false wr HT.out.st hgt)
      clear hgt
      go_wp2_with fail
      refine HM.out.mono ?_
      rintro e w2 ⟨rfl, hr2, hg2⟩
      have HT2 := Lib.hid (HT.out.next hg2 hr2)
      have b2 := HT2.out.b0.cell 2
      clear hr2 hg2
      go_wp2_with fail
      refine (fail_calls gr 3 w2).mono ?_
      rintro e w3 ⟨rfl, rfl⟩
      have HRL : Hid ((rowsBits fl rs).length = (entsBits fl rs k).length + 1) := Lib.hid (by unfold rowsBits; rw [List.length_append, HNL.out]; rfl)
      go_wp2_with fail
      go_ret
      have hs := own_rg Rv.cl_len (by decide) HT2.out.own
      refine ⟨A, c, rfl, ⟨vs, ?_, hs, fun v hv => ?_, HT2.out.cp⟩, ?_, HT2.out.fr⟩
      · rw [HVS.out, List.take_of_length_le (by rw [HNL.out]; exact Nat.le_refl _)]
      · obtain ⟨g, h1, h2, h3, _, h5⟩ := HT2.out.fl v hv
        exact ⟨g, h1, h2, h3, by simp, h5⟩
      · rw [HRL.out, ← Nat.add_assoc]
        exact HT2.out.st
end Go.Proofs.YtbilegkffooioaaGreatDoor
/-
  view.vec, player, shot, and each of them: rows become things.
-/
namespace Go.Proofs.YtbilegkffooioaaGreatDoor
open Go.RowKit

set_option maxHeartbeats 4000000 in
set_option maxRecDepth 1000000 in
/-- **vec.** -/
theorem vec_calls (g o n c : Nat) (x y z : Int) (w : World) (h0 : w.cell? ⟨g, o, none⟩ = some (.int .i64 x)) (h1 : w.cell? ⟨g, o + 1, none⟩ = some (.int .i64 y)) (h2 : w.cell? ⟨g, o + 2, none⟩ = some (.int .i64 z)) (hn : 3 ≤ n) :
    Calls Tryz.prog 116 #[.slice (some ⟨g, o, none⟩) n c] w fun e w' => e = .returned (.agg #[.int .i64 x, .int .i64 y, .int .i64 z]) ∧ w.grownBy w' none := by
  have hl := World.block_lt_of_cell? w _ h0
  simp only at hl
  have b0 : (0 : Int) < (n : Int) := by omega
  have b1 : (1 : Int) < (n : Int) := by omega
  have b2 : (2 : Int) < (n : Int) := by omega
  have b3 : 0 < n := by omega
  have n1 : ¬ (w.heap.size = g) := by omega
  clear hn
  go_enter Tryz.func116, Tryz.ntmps116
  go_wp2_with fail
  go_region_held3 (fun W => W.cell? ⟨g, o, none⟩ = some (.int .i64 x) ∧ W.cell? ⟨g, o + 1, none⟩ = some (.int .i64 y) ∧ W.cell? ⟨g, o + 2, none⟩ = some (.int .i64 z)) (go_keep) (fail)
  go_wp2
  refine bodyPost_ret (results_cell_row (cs := #[.int .i64 x, .int .i64 y, .int .i64 z]) rfl _ _ w.heap.size 35 (0, 0) _ rfl (Blk.new w 35 _) Tryz.underlying35 rfl Tryz.size35) rfl ?_
  exact ⟨rfl, grown_drew (World.grownBy_alloc _ _ none)⟩
end Go.Proofs.YtbilegkffooioaaGreatDoor
/-
  view's rows become things (players).
-/
namespace Go.Proofs.YtbilegkffooioaaGreatDoor
open Go.RowKit

/-- The world in which a row becomes one. -/
def PPlV (w : World) (id : Int) (v : Value) : World := (w.alloc (.cells #[.int .i64 id, v] 89)).alloc (.cells #[.int .i64 0, .int .i64 0, .int .i64 0, .int .i64 0, .int .i64 0, .int .i64 0, .int .i64 0, .bool false, .int .i64 0, .int .i64 0, .int .i64 0, .int .i64 0, .int .i64 0, .int .i64 0, .int .i64 0] 38)
theorem PPlV_grown (w : World) (id : Int) (v : Value) : w.grownBy (PPlV w id v) none := (World.grownBy_alloc _ _ none).trans (World.grownBy_alloc _ _ none)
theorem PPlV_blks {w W : World} {id : Int} {v : Value} (hg : (PPlV w id v).grownBy W none) : Blk W w.heap.size 89 #[.int .i64 id, v] ∧ Blk W (w.heap.size + 1) 38 #[.int .i64 0, .int .i64 0, .int .i64 0, .int .i64 0, .int .i64 0, .int .i64 0, .int .i64 0, .bool false, .int .i64 0, .int .i64 0, .int .i64 0, .int .i64 0, .int .i64 0, .int .i64 0, .int .i64 0] := by
  have e1 : (w.alloc (.cells #[.int .i64 id, v] 89)).heap.size = w.heap.size + 1 := by simp
  have h1 := (Blk.new w 89 #[.int .i64 id, v]).alloc (.cells #[.int .i64 0, .int .i64 0, .int .i64 0, .int .i64 0, .int .i64 0, .int .i64 0, .int .i64 0, .bool false, .int .i64 0, .int .i64 0, .int .i64 0, .int .i64 0, .int .i64 0, .int .i64 0, .int .i64 0] 38)
  have h2 := Blk.new (w.alloc (.cells #[.int .i64 id, v] 89)) 38 #[.int .i64 0, .int .i64 0, .int .i64 0, .int .i64 0, .int .i64 0, .int .i64 0, .int .i64 0, .bool false, .int .i64 0, .int .i64 0, .int .i64 0, .int .i64 0, .int .i64 0, .int .i64 0, .int .i64 0]
  rw [e1] at h2
  exact ⟨h1.grown hg (by simp), h2.grown hg (by simp)⟩
theorem PPlV_keep {w W : World} {v : Value} {g : Nat} {p : Pl} (h : ∀ j u, (ints p.fields)[j]? = some u → w.cell? ⟨g, 0 + j, none⟩ = some u) (hg : (PPlV w p.id v).grownBy W none) :
    W.cell? ⟨w.heap.size, 0, none⟩ = some (.int .i64 p.id) ∧ W.cell? ⟨g, 0, none⟩ = some (.int .i64 p.px) ∧ W.cell? ⟨g, 1, none⟩ = some (.int .i64 p.py) ∧ W.cell? ⟨g, 2, none⟩ = some (.int .i64 p.pz) ∧ W.cell? ⟨g, 3, none⟩ = some (.int .i64 p.vx) ∧ W.cell? ⟨g, 4, none⟩ = some (.int .i64 p.vy) ∧ W.cell? ⟨g, 5, none⟩ = some (.int .i64 p.vz) ∧ W.cell? ⟨g, 6, none⟩ = some (.int .i64 (flagZ p.ground)) ∧ W.cell? ⟨g, 7, none⟩ = some (.int .i64 p.health) ∧ W.cell? ⟨g, 8, none⟩ = some (.int .i64 p.armour) ∧ W.cell? ⟨g, 9, none⟩ = some (.int .i64 p.score) ∧ W.cell? ⟨g, 10, none⟩ = some (.int .i64 p.a0) ∧ W.cell? ⟨g, 11, none⟩ = some (.int .i64 p.a1) ∧ W.cell? ⟨g, 12, none⟩ = some (.int .i64 p.wait) ∧ W.cell? ⟨g, 13, none⟩ = some (.int .i64 p.dead) := by
  have kk : ∀ (j : Nat) (u : Value), (ints p.fields)[j]? = some u → W.cell? ⟨g, j, none⟩ = some u := fun j u hu => by
    have := grown_at ((PPlV_grown w p.id v).trans hg) g (0 + j) u (h j u hu) (World.block_lt_of_cell? w _ (h j u hu)) (by simp)
    rwa [Nat.zero_add] at this
  exact ⟨(PPlV_blks hg).1.cell 0, kk 0 _ rfl, kk 1 _ rfl, kk 2 _ rfl, kk 3 _ rfl, kk 4 _ rfl, kk 5 _ rfl, kk 6 _ rfl, kk 7 _ rfl, kk 8 _ rfl, kk 9 _ rfl, kk 10 _ rfl, kk 11 _ rfl, kk 12 _ rfl, kk 13 _ rfl⟩
theorem PPlV_free {w W : World} {id : Int} {v : Value} (hg : (PPlV w id v).grownBy W none) : W.cell? ⟨w.heap.size + 1, 0, none⟩ = some (.int .i64 0) ∧ W.cell? ⟨w.heap.size + 1, 1, none⟩ = some (.int .i64 0) ∧ W.cell? ⟨w.heap.size + 1, 2, none⟩ = some (.int .i64 0) ∧ W.cell? ⟨w.heap.size + 1, 3, none⟩ = some (.int .i64 0) ∧ W.cell? ⟨w.heap.size + 1, 4, none⟩ = some (.int .i64 0) ∧ W.cell? ⟨w.heap.size + 1, 5, none⟩ = some (.int .i64 0) ∧ W.cell? ⟨w.heap.size + 1, 6, none⟩ = some (.int .i64 0) ∧ W.cell? ⟨w.heap.size + 1, 7, none⟩ = some (.bool false) ∧ W.cell? ⟨w.heap.size + 1, 8, none⟩ = some (.int .i64 0) ∧ W.cell? ⟨w.heap.size + 1, 9, none⟩ = some (.int .i64 0) ∧ W.cell? ⟨w.heap.size + 1, 10, none⟩ = some (.int .i64 0) ∧ W.cell? ⟨w.heap.size + 1, 11, none⟩ = some (.int .i64 0) ∧ W.cell? ⟨w.heap.size + 1, 12, none⟩ = some (.int .i64 0) ∧ W.cell? ⟨w.heap.size + 1, 13, none⟩ = some (.int .i64 0) ∧ W.cell? ⟨w.heap.size + 1, 14, none⟩ = some (.int .i64 0) ∧ W.frozen? ⟨w.heap.size + 1, 0, none⟩ = false ∧ W.frozen? ⟨w.heap.size + 1, 1, none⟩ = false ∧ W.frozen? ⟨w.heap.size + 1, 2, none⟩ = false ∧ W.frozen? ⟨w.heap.size + 1, 3, none⟩ = false ∧ W.frozen? ⟨w.heap.size + 1, 4, none⟩ = false ∧ W.frozen? ⟨w.heap.size + 1, 5, none⟩ = false ∧ W.frozen? ⟨w.heap.size + 1, 6, none⟩ = false ∧ W.frozen? ⟨w.heap.size + 1, 7, none⟩ = false ∧ W.frozen? ⟨w.heap.size + 1, 8, none⟩ = false ∧ W.frozen? ⟨w.heap.size + 1, 9, none⟩ = false ∧ W.frozen? ⟨w.heap.size + 1, 10, none⟩ = false ∧ W.frozen? ⟨w.heap.size + 1, 11, none⟩ = false ∧ W.frozen? ⟨w.heap.size + 1, 12, none⟩ = false ∧ W.frozen? ⟨w.heap.size + 1, 13, none⟩ = false ∧ W.frozen? ⟨w.heap.size + 1, 14, none⟩ = false := by
  obtain ⟨_, h2⟩ := PPlV_blks hg
  exact ⟨h2.cell 0, h2.cell 1, h2.cell 2, h2.cell 3, h2.cell 4, h2.cell 5, h2.cell 6, h2.cell 7, h2.cell 8, h2.cell 9, h2.cell 10, h2.cell 11, h2.cell 12, h2.cell 13, h2.cell 14, h2.free 0, h2.free 1, h2.free 2, h2.free 3, h2.free 4, h2.free 5, h2.free 6, h2.free 7, h2.free 8, h2.free 9, h2.free 10, h2.free 11, h2.free 12, h2.free 13, h2.free 14⟩

set_option maxHeartbeats 8000000 in
set_option maxRecDepth 1000000 in
/-- A row becomes one. -/
theorem toPl_calls (g cp : Nat) (p : Pl) (w : World) (h : ∀ j u, (ints p.fields)[j]? = some u → w.cell? ⟨g, 0 + j, none⟩ = some u) (hcp : 14 ≤ cp) (hgl : g < w.heap.size) :
    Calls Tryz.prog 50 #[.agg #[.int .i64 p.id, .slice (some ⟨g, 0, none⟩) 14 cp]] w fun e w' => e = .returned p.val ∧ w.grownBy w' none := by
  have HK : Hid (∀ W, (PPlV w p.id (.slice (some ⟨g, 0, none⟩) 14 cp)).grownBy W none → _) := Lib.hid fun W hg => PPlV_keep (W := W) h hg
  have HV0 : Hid ((PPlV w p.id (.slice (some ⟨g, 0, none⟩) 14 cp)).grownBy (PPlV w p.id (.slice (some ⟨g, 0, none⟩) 14 cp)).drew none) := Lib.hid ⟨rfl, rfl, rfl, Nat.le_refl _, fun _ _ _ => rfl⟩
  have n1 : ¬ (w.heap.size + 1 = w.heap.size) := by omega
  have n2 : ¬ (w.heap.size + 1 = g) := by omega
  have hb1 : (14 : Int) ≤ (cp : Int) := by omega
  have hq3 : (3 : Int) ≤ (cp : Int) := by omega
  clear h hgl hcp
  obtain ⟨f0, f1, f2, f3, f4, f5, f6, f7, f8, f9, f10, f11, f12, f13, f14⟩ := p
  rcases f7 with _ | _
  · go_enter Tryz.func50, Tryz.ntmps50
    go_wp2_with fail
    have hk0 := HK.out _ HV0.out
    unfold PPlV at hk0
    simp only [flagZ, Bool.false_eq_true, if_false] at hk0 HK
    obtain ⟨k0, k1, k2, k3, k4, k5, k6, k7, k8, k9, k10, k11, k12, k13, k14⟩ := hk0
    go_region_held3 (fun W => W.cell? ⟨w.heap.size, 0, none⟩ = some (.int .i64 f0) ∧ W.cell? ⟨g, 0, none⟩ = some (.int .i64 f1) ∧ W.cell? ⟨g, 1, none⟩ = some (.int .i64 f2) ∧ W.cell? ⟨g, 2, none⟩ = some (.int .i64 f3) ∧ W.cell? ⟨g, 3, none⟩ = some (.int .i64 f4) ∧ W.cell? ⟨g, 4, none⟩ = some (.int .i64 f5) ∧ W.cell? ⟨g, 5, none⟩ = some (.int .i64 f6) ∧ W.cell? ⟨g, 6, none⟩ = some (.int .i64 0) ∧ W.cell? ⟨g, 7, none⟩ = some (.int .i64 f8) ∧ W.cell? ⟨g, 8, none⟩ = some (.int .i64 f9) ∧ W.cell? ⟨g, 9, none⟩ = some (.int .i64 f10) ∧ W.cell? ⟨g, 10, none⟩ = some (.int .i64 f11) ∧ W.cell? ⟨g, 11, none⟩ = some (.int .i64 f12) ∧ W.cell? ⟨g, 12, none⟩ = some (.int .i64 f13) ∧ W.cell? ⟨g, 13, none⟩ = some (.int .i64 f14)) (go_keep)
      (first
        | (go_at_call 116; have hx := HG1.out; refine (vec_calls g 3 11 _ f4 f5 f6 w1 (hk1.2.2.2.2.1) (hk1.2.2.2.2.2.1) (hk1.2.2.2.2.2.2.1) (by decide)).mono ?_; rintro e w2 ⟨rfl, hg⟩; have HG2 := Lib.hid (hx.trans hg); clear hx hg; have hk2 := HK.out _ HG2.out; have hf2 := PPlV_free HG2.out)
        | (go_at_call 116; refine (vec_calls g 0 14 _ f1 f2 f3 _ k1 k2 k3 (by decide)).mono ?_; rintro e w1 ⟨rfl, hg⟩; have HG1 := Lib.hid (HV0.out.trans hg); clear hg; have hk1 := HK.out _ HG1.out))
    go_wp2
    have hb : Blk _ (w.heap.size + 1) 38 #[.int .i64 f0, .int .i64 f1, .int .i64 f2, .int .i64 f3, .int .i64 f4, .int .i64 f5, .int .i64 f6, .bool false, .int .i64 f8, .int .i64 f9, .int .i64 f10, .int .i64 f11, .int .i64 f12, .int .i64 f13, .int .i64 f14] := (((((((((((((((((PPlV_blks HG2.out).2.put 0 (.int .i64 f0)).put 1 (.int .i64 f1)).put 2 (.int .i64 f2)).put 3 (.int .i64 f3)).put 4 (.int .i64 f4)).put 5 (.int .i64 f5)).put 6 (.int .i64 f6)).put 7 (.bool false)).put 8 (.int .i64 f8)).put 9 (.int .i64 f9)).put 10 (.int .i64 f10)).put 11 (.int .i64 f11)).put 12 (.int .i64 f12)).put 13 (.int .i64 f13)).put 14 (.int .i64 f14))).of_ (by simp only [List.setIfInBounds_toArray, List.set_cons_zero, List.set_cons_succ])
    refine bodyPost_ret (results_cell_row (cs := #[.int .i64 f0, .int .i64 f1, .int .i64 f2, .int .i64 f3, .int .i64 f4, .int .i64 f5, .int .i64 f6, .bool false, .int .i64 f8, .int .i64 f9, .int .i64 f10, .int .i64 f11, .int .i64 f12, .int .i64 f13, .int .i64 f14]) rfl _ _ (w.heap.size + 1) 38 (0, 0) _ rfl hb Tryz.underlying38 rfl Tryz.size38) rfl ?_
    exact ⟨rfl, set_lo (set_lo (set_lo (set_lo (set_lo (set_lo (set_lo (set_lo (set_lo (set_lo (set_lo (set_lo (set_lo (set_lo (set_lo ((PPlV_grown w _ _).trans HG2.out) (Nat.le_succ _) 0 _) (Nat.le_succ _) 1 _) (Nat.le_succ _) 2 _) (Nat.le_succ _) 3 _) (Nat.le_succ _) 4 _) (Nat.le_succ _) 5 _) (Nat.le_succ _) 6 _) (Nat.le_succ _) 7 _) (Nat.le_succ _) 8 _) (Nat.le_succ _) 9 _) (Nat.le_succ _) 10 _) (Nat.le_succ _) 11 _) (Nat.le_succ _) 12 _) (Nat.le_succ _) 13 _) (Nat.le_succ _) 14 _⟩
  · go_enter Tryz.func50, Tryz.ntmps50
    go_wp2_with fail
    have hk0 := HK.out _ HV0.out
    unfold PPlV at hk0
    simp only [flagZ, if_true] at hk0 HK
    obtain ⟨k0, k1, k2, k3, k4, k5, k6, k7, k8, k9, k10, k11, k12, k13, k14⟩ := hk0
    go_region_held3 (fun W => W.cell? ⟨w.heap.size, 0, none⟩ = some (.int .i64 f0) ∧ W.cell? ⟨g, 0, none⟩ = some (.int .i64 f1) ∧ W.cell? ⟨g, 1, none⟩ = some (.int .i64 f2) ∧ W.cell? ⟨g, 2, none⟩ = some (.int .i64 f3) ∧ W.cell? ⟨g, 3, none⟩ = some (.int .i64 f4) ∧ W.cell? ⟨g, 4, none⟩ = some (.int .i64 f5) ∧ W.cell? ⟨g, 5, none⟩ = some (.int .i64 f6) ∧ W.cell? ⟨g, 6, none⟩ = some (.int .i64 1) ∧ W.cell? ⟨g, 7, none⟩ = some (.int .i64 f8) ∧ W.cell? ⟨g, 8, none⟩ = some (.int .i64 f9) ∧ W.cell? ⟨g, 9, none⟩ = some (.int .i64 f10) ∧ W.cell? ⟨g, 10, none⟩ = some (.int .i64 f11) ∧ W.cell? ⟨g, 11, none⟩ = some (.int .i64 f12) ∧ W.cell? ⟨g, 12, none⟩ = some (.int .i64 f13) ∧ W.cell? ⟨g, 13, none⟩ = some (.int .i64 f14)) (go_keep)
      (first
        | (go_at_call 116; have hx := HG1.out; refine (vec_calls g 3 11 _ f4 f5 f6 w1 (hk1.2.2.2.2.1) (hk1.2.2.2.2.2.1) (hk1.2.2.2.2.2.2.1) (by decide)).mono ?_; rintro e w2 ⟨rfl, hg⟩; have HG2 := Lib.hid (hx.trans hg); clear hx hg; have hk2 := HK.out _ HG2.out; have hf2 := PPlV_free HG2.out)
        | (go_at_call 116; refine (vec_calls g 0 14 _ f1 f2 f3 _ k1 k2 k3 (by decide)).mono ?_; rintro e w1 ⟨rfl, hg⟩; have HG1 := Lib.hid (HV0.out.trans hg); clear hg; have hk1 := HK.out _ HG1.out))
    go_wp2
    have hb : Blk _ (w.heap.size + 1) 38 #[.int .i64 f0, .int .i64 f1, .int .i64 f2, .int .i64 f3, .int .i64 f4, .int .i64 f5, .int .i64 f6, .bool true, .int .i64 f8, .int .i64 f9, .int .i64 f10, .int .i64 f11, .int .i64 f12, .int .i64 f13, .int .i64 f14] := (((((((((((((((((PPlV_blks HG2.out).2.put 0 (.int .i64 f0)).put 1 (.int .i64 f1)).put 2 (.int .i64 f2)).put 3 (.int .i64 f3)).put 4 (.int .i64 f4)).put 5 (.int .i64 f5)).put 6 (.int .i64 f6)).put 7 (.bool true)).put 8 (.int .i64 f8)).put 9 (.int .i64 f9)).put 10 (.int .i64 f10)).put 11 (.int .i64 f11)).put 12 (.int .i64 f12)).put 13 (.int .i64 f13)).put 14 (.int .i64 f14))).of_ (by simp only [List.setIfInBounds_toArray, List.set_cons_zero, List.set_cons_succ])
    refine bodyPost_ret (results_cell_row (cs := #[.int .i64 f0, .int .i64 f1, .int .i64 f2, .int .i64 f3, .int .i64 f4, .int .i64 f5, .int .i64 f6, .bool true, .int .i64 f8, .int .i64 f9, .int .i64 f10, .int .i64 f11, .int .i64 f12, .int .i64 f13, .int .i64 f14]) rfl _ _ (w.heap.size + 1) 38 (0, 0) _ rfl hb Tryz.underlying38 rfl Tryz.size38) rfl ?_
    exact ⟨rfl, set_lo (set_lo (set_lo (set_lo (set_lo (set_lo (set_lo (set_lo (set_lo (set_lo (set_lo (set_lo (set_lo (set_lo (set_lo ((PPlV_grown w _ _).trans HG2.out) (Nat.le_succ _) 0 _) (Nat.le_succ _) 1 _) (Nat.le_succ _) 2 _) (Nat.le_succ _) 3 _) (Nat.le_succ _) 4 _) (Nat.le_succ _) 5 _) (Nat.le_succ _) 6 _) (Nat.le_succ _) 7 _) (Nat.le_succ _) 8 _) (Nat.le_succ _) 9 _) (Nat.le_succ _) 10 _) (Nat.le_succ _) 11 _) (Nat.le_succ _) 12 _) (Nat.le_succ _) 13 _) (Nat.le_succ _) 14 _⟩
end Go.Proofs.YtbilegkffooioaaGreatDoor
