import Derived.Test.YtldgldibkibknaaGet
namespace Go.Proofs.Ytldgldibkibknaa
open Go.RowKit

/-- What Rest tells. -/
def restB (l : List Nat) (a : Nat) : Bool := ((List.range (8 * l.length - a)).all fun i => obit l (a + i) == 0) && decide (8 * l.length - a < 8)

set_option maxHeartbeats 1000000 in
/-- **Rest.** -/
theorem rest_calls (g : Nat) (l : List Nat) (a : Nat) (w : World) (h : Rr w g l a) :
    Calls Try.prog 18 #[.pointer (some ⟨g, 0, none⟩)] w fun e w' => e = .returned (.bool (restB l a)) ∧ ∃ n, w' = w.drewN n := by
  have hat := h.at_le
  have hlen := h.len
  obtain ⟨k, hk⟩ : ∃ k, 8 * l.length - a = k := ⟨_, rfl⟩
  have hL := left_calls g l a w h
  have hT : ∀ j, a + j < 8 * l.length → Calls Try.prog 31 #[.pointer (some ⟨g, 0, none⟩), .int .i64 ((a + j : Nat) : Int)] w fun e w' => e = .returned (.int .u64 (obit l (a + j) : Nat)) ∧ w = w' := fun j hj => bit_calls g l a (a + j) w h hj
  rw [hk] at hL
  obtain ⟨B, hB⟩ : ∃ B, restB l a = B := ⟨_, rfl⟩
  have hB' : B = (((List.range k).all fun i => obit l (a + i) == 0) && decide (k < 8)) := by rw [← hB, restB, hk]
  rw [hB]
  have HB := Lib.hid hB'
  have HL := Lib.hid hL
  have HT := Lib.hid hT
  obtain ⟨⟨A, c, hb, _⟩, _, _, _⟩ := h
  have c0 := hb.cell 0
  have c1 := hb.cell 1
  simp only [List.getElem?_toArray, List.getElem?_cons_zero, List.getElem?_cons_succ] at c0 c1
  clear hB hB' hL hT hb
  go_enter Try.func18, Try.ntmps18
  go_wp2
  go_loopw [3] (fun v wr => ∃ j : Nat, j ≤ k ∧ v = .int .i64 ((a + j : Nat) : Int) ∧ wr = w ∧ Hid (∀ i, i < j → obit l (a + i) = 0)) (fun v wr => 8 * l.length - (iv v).toNat)
  case atStart => exact ⟨0, by omega, rfl, rfl, Lib.hid fun i hi => absurd hi (by omega)⟩
  case round =>
    obtain ⟨j, hj, rfl, rfl, hz⟩ := hrel
    have e0 : IntKind.i64.wrap ((l.length : Int) * 8) = ((8 * l.length : Nat) : Int) := by rw [IntWalk.i64_in _ (by omega)]; omega
    obtain ⟨T, hTT⟩ : ∃ T, 8 * l.length = T := ⟨_, rfl⟩
    obtain ⟨p, hp⟩ : ∃ p, a + j = p := ⟨_, rfl⟩
    rcases Nat.lt_or_ge (a + j) (8 * l.length) with hlt | hge
    · have HT1 := Lib.hid (HT.out j hlt)
      obtain ⟨o, ho⟩ : ∃ o, obit l (a + j) = o := ⟨_, rfl⟩
      have ho1 : o ≤ 1 := by rw [← ho]; exact obit_le l _
      rw [ho] at HT1
      rw [hp] at HT1 hlt
      rw [hTT] at e0 hlt
      have hlt2 : (p : Int) < (T : Int) := by omega
      have e3 : IntKind.i64.wrap ((p : Int) + 1) = ((p + 1 : Nat) : Int) := IntWalk.i64_in _ (by omega)
      rw [hp]
      have HO := Lib.hid ho
      have HP := Lib.hid hp
      have HTT := Lib.hid hTT
      clear ho hp hTT
      rcases (by omega : o = 0 ∨ o = 1) with rfl | rfl
      · go_wp2_with (go_at_call 31; refine HT1.out.mono ?_; rintro e w1 ⟨rfl, rfl⟩)
        go_roundw
        case rel => exact ⟨j + 1, by have := HP.out; have := HTT.out; omega, by have := HP.out; rw [← Nat.add_assoc, this]; simp, trivial, Lib.hid fun i hi => by
          rcases Nat.lt_or_ge i j with h | h
          · exact hz.out i h
          · rw [show i = j by omega]; exact HO.out⟩
        case measure => have := HP.out; have := HTT.out; simp [iv]; omega
      · go_wp2_with (go_at_call 31; refine HT1.out.mono ?_; rintro e w1 ⟨rfl, rfl⟩)
        go_ret
        refine ⟨ret_bool ?_, 0, rfl⟩
        rw [HB.out]
        symm
        rw [Bool.and_eq_false_iff]
        left
        rw [List.all_eq_false]
        exact ⟨j, by simp; have := HP.out; have := HTT.out; omega, by rw [HO.out]; decide⟩
    · have hlt2 : ¬ (p : Int) < (T : Int) := by omega
      rw [hTT] at e0
      rw [hp]
      have HP := Lib.hid hp
      have HTT := Lib.hid hTT
      have hall : Hid (((List.range k).all fun i => obit l (a + i) == 0) = true) := Lib.hid (by
        rw [List.all_eq_true]
        intro i hi
        have hi := List.mem_range.1 hi
        rw [hz.out i (by omega)]; rfl)
      have HB2 : Hid (B = decide (k < 8)) := Lib.hid (by rw [HB.out, hall.out]; simp)
      clear hp hTT hge hj hk hat
      go_wp2_with (go_at_call 30; refine HL.out.mono ?_; rintro e w1 ⟨rfl, n, rfl⟩)
      go_ret
      exact ⟨ret_bool (by rw [HB2.out]; exact decide_eq_decide.2 (by omega)), n, rfl⟩

theorem sgn_walk (v n : Nat) (hn : n ≤ 64) (hv : v < 2 ^ n) : IntKind.i64.wrap (IntKind.u64.wrap ((v : Int) * 2 ^ (64 - n))) / 2 ^ (64 - n) = if 2 * v < 2 ^ n then (v : Int) else (v : Int) - 2 ^ n := by
  obtain ⟨b, hb⟩ : ∃ b, 64 - n = b := ⟨_, rfl⟩
  rw [hb]
  have hp : 2 ^ n * 2 ^ b = 18446744073709551616 := by rw [← Nat.pow_add, show n + b = 64 by omega]
  have h0 : 0 < 2 ^ b := Nat.two_pow_pos b
  have e : ((v : Int) * 2 ^ b) = ((v * 2 ^ b : Nat) : Int) := by simp
  have e2 : ((2 : Int) ^ b) = ((2 ^ b : Nat) : Int) := by simp
  have e3 : ((2 : Int) ^ n) = ((2 ^ n : Nat) : Int) := by simp
  rw [e, e2, e3]
  have hlt : v * 2 ^ b < 18446744073709551616 := by rw [← hp]; exact (Nat.mul_lt_mul_right h0).2 hv
  have hk : 2 * v < 2 ^ n ↔ v * 2 ^ b < 9223372036854775808 := by
    constructor
    · intro h
      have : 2 * v * 2 ^ b < 2 ^ n * 2 ^ b := (Nat.mul_lt_mul_right h0).2 h
      rw [hp, Nat.mul_assoc] at this; omega
    · intro h
      refine (Nat.mul_lt_mul_right h0).1 ?_
      rw [hp, Nat.mul_assoc]; omega
  have eu : IntKind.u64.wrap ((v * 2 ^ b : Nat) : Int) = ((v * 2 ^ b : Nat) : Int) := by rw [IntKind.wrap_u64]; omega
  rw [eu]
  have h0i : ((2 ^ b : Nat) : Int) ≠ 0 := by omega
  by_cases h : 2 * v < 2 ^ n
  · rw [if_pos h, IntWalk.i64_in _ (by have := hk.1 h; omega)]
    rw [Int.natCast_mul, Int.mul_ediv_cancel _ h0i]
  · rw [if_neg h]
    have h2 : ¬ v * 2 ^ b < 9223372036854775808 := fun c => h (hk.2 c)
    have ew : IntKind.i64.wrap ((v * 2 ^ b : Nat) : Int) = ((v : Int) - ((2 ^ n : Nat) : Int)) * ((2 ^ b : Nat) : Int) := by
      rw [Int.sub_mul, ← Int.natCast_mul, ← Int.natCast_mul, hp, IntKind.wrap_i64]
      omega
    rw [ew, Int.mul_ediv_cancel _ h0i]

/-- n bits with a sign. -/
def sgn (v n : Nat) : Int := if 2 * v < 2 ^ n then (v : Int) else (v : Int) - 2 ^ n

theorem got_lt (l : List Nat) (a n : Nat) : (got l a n).1 < 2 ^ n := by
  unfold got; split
  · exact num_lt l a n
  · exact Nat.two_pow_pos n

set_option maxHeartbeats 1000000 in
/-- The reader's **Sign.** -/
theorem signR_calls (g : Nat) (l : List Nat) (a : Nat) (x : Int) (w : World) (h : Rr w g l a) :
    Calls Try.prog 22 #[.pointer (some ⟨g, 0, none⟩), .int .i64 x] w fun e w' => e = .returned (.tuple #[.int .i64 (sgn (got l a (inn x)).1 (inn x)), .bool (got l a (inn x)).2.1]) ∧ Rr w' g l (got l a (inn x)).2.2 ∧ w.grownBy w' (some g) := by
  have hn := inn_le x
  have hG := get_calls g l a x w h
  have hW := fun w => within_calls x w
  have hlt := got_lt l a (inn x)
  obtain ⟨n, hnx⟩ : ∃ n, inn x = n := ⟨_, rfl⟩
  rw [hnx] at hn hG hlt ⊢
  simp only [hnx] at hW
  obtain ⟨G, hGG⟩ : ∃ G, got l a n = G := ⟨_, rfl⟩
  rw [hGG] at hG hlt ⊢
  obtain ⟨v, ok, b⟩ := G
  simp only at hG hlt ⊢
  have hs := sgn_walk v n hn hlt
  change _ = sgn v n at hs
  obtain ⟨z, hz⟩ : ∃ z, sgn v n = z := ⟨_, rfl⟩
  rw [hz] at hs ⊢
  have e1 : IntKind.i64.wrap (64 - (n : Int)) = ((64 - n : Nat) : Int) := by rw [IntWalk.i64_in _ (by omega)]; omega
  obtain ⟨m, hm⟩ : ∃ m, 64 - n = m := ⟨_, rfl⟩
  rw [hm] at e1 hs
  have hs1 : IntKind.i64.wrap (IntKind.u64.wrap ((v : Int) * 2 ^ min m 64)) / 2 ^ min m 64 = z := by rw [Nat.min_eq_left (by omega)]; exact hs
  have hs2 : IntKind.i64.wrap (IntKind.u64.wrap ((v : Int) * 2 ^ m)) / 2 ^ min m 64 = z := by rw [Nat.min_eq_left (by omega)]; exact hs
  have hs3 : wrap64 (IntKind.u64.wrap ((v : Int) * 2 ^ m)) / 2 ^ m = z := by rw [← hs, IntWalk.i64_left]
  have HG := Lib.hid hG
  have HW : Hid (∀ w, Calls Try.prog 29 #[.int .i64 x] w fun e w' => e = .returned (.int .i64 (n : Int)) ∧ w = w') := Lib.hid hW
  have hm64 : m ≤ 64 := by omega
  clear hG hW hz hlt hnx hn hm hGG h
  go_enter Try.func22, Try.ntmps22
  go_wp2_with (first
    | (go_at_call 17; refine HG.out.mono ?_; rintro e w1 ⟨rfl, h1, h2⟩; have H1 := Lib.hid h1; have H2 := Lib.hid h2; clear h1 h2)
    | (go_at_call 29; refine (HW.out _).mono ?_; rintro e w1 ⟨rfl, rfl⟩))
  go_ret2
  exact ⟨rfl, H1.out, H2.out⟩

/-- A number's bits, as a number without a sign. -/
def uw (x : Int) : Nat := (x % 18446744073709551616).toNat
theorem uw_lt (x : Int) : uw x < 18446744073709551616 := by unfold uw; omega
theorem uw_wrap (x : Int) : IntKind.u64.wrap x = (uw x : Int) := by rw [IntKind.wrap_u64]; unfold uw; omega

set_option maxHeartbeats 1000000 in
/-- The writer's **Sign.** -/
theorem signW_calls (g : Nat) (y x : Int) (bs : List Bool) (hl : bs.length ≤ 1000000) (v0 : Value) (w : World) (hw : Wr w g bs v0) :
    Calls Try.prog 25 #[.pointer (some ⟨g, 0, none⟩), .int .i64 y, .int .i64 x] w fun e w' => e = .returned (.tuple #[]) ∧
      ∃ v, Wr w' g (bs ++ hb (uw y) (inn x)) v ∧ (v.ownBlock = v0.ownBlock ∨ ∀ k, v.ownBlock = some k → w.heap.size ≤ k) ∧ Frm w w' g v0.ownBlock := by
  have HP := Lib.hid (put_calls g (uw y) x (uw_lt y) bs hl v0 w hw)
  have hu := uw_wrap y
  clear hw
  go_enter Try.func25, Try.ntmps25
  go_wp2_with (go_at_call 15; refine HP.out.mono ?_; rintro e w1 ⟨rfl, v, h1, h2, h3⟩; have H1 := Lib.hid h1; have H2 := Lib.hid h2; have H3 := Lib.hid h3; clear h1 h2 h3)
  go_end0
  exact ⟨rfl, v, H1.out, H2.out, H3.out⟩

theorem Rd.lit160 (w : World) : Rd (w.alloc (.cells #[.int .u8 160] 5)) (w.heap.size + 1) (some ⟨w.heap.size, 0, none⟩) 1 ([160].map bv) :=
  ⟨rfl, fun _ => ⟨w.heap.size, 0, rfl, Nat.lt_succ_self _, fun j u hu => by
    rw [Blk.cell (Blk.new w 5 #[.int .u8 160])]
    simpa [bv] using hu⟩⟩
theorem wr_new (w : World) : Wr (w.alloc (.cells #[.slice none 0 0, .int .i64 0] 33)) w.heap.size [] (.slice none 0 0) :=
  ⟨Blk.new w 33 _, World.ownsRow_nil _ _ 5 1⟩
theorem Frm.over {a b c : World} {g : Nat} {r : Option Nat} (h : a.grownBy b none) (k : Frm b c g r) (hg : a.heap.size ≤ g) (hr : ∀ j, r = some j → a.heap.size ≤ j) : a.grownBy c none :=
  ⟨k.os.trans h.os, k.tape.trans h.tape, k.output.trans h.output, Nat.le_trans h.size k.size, fun i hi _ => (k.block i (Nat.lt_of_lt_of_le hi h.size) (by omega) (fun e => by have := hr i e.symm; omega)).trans (h.block i hi (by simp))⟩
theorem grown_drawn {a b : World} {r : Option Nat} (h : a.grownBy b r) (n : Nat) : a.grownBy (b.drewN n) r := ⟨h.os, h.tape, h.output, h.size, h.block⟩
/-- A writer of one's own abides whatever leaves what lay. -/
theorem Wr.grown {A B : World} {g : Nat} {bs : List Bool} {v : Value} (h : Wr A g bs v) (hg : A.grownBy B none) : Wr B g bs v := h.kept hg (fun r e => by cases e)
theorem Rr.grown {A B : World} {g : Nat} {l : List Nat} {a : Nat} (h : Rr A g l a) (hg : A.grownBy B none) : Rr B g l a :=
  h.keep fun k hk => hg.block k (Nat.lt_of_le_of_lt hk h.lt) (by simp)

theorem Frm.cell {a b : World} {g : Nat} {r : Option Nat} (h : Frm a b g r) (k i : Nat) (u : Value) (hk : a.cell? ⟨k, i, none⟩ = some u) (hl : k < a.heap.size) (hg : k ≠ g) (hr : some k ≠ r) : b.cell? ⟨k, i, none⟩ = some u :=
  (World.cell?_of_block (a := ⟨k, i, none⟩) (h.block k hl hg hr)).trans hk
theorem grown_cell {a b : World} {r : Option Nat} (h : a.grownBy b r) (k i : Nat) (u : Value) (hk : a.cell? ⟨k, i, none⟩ = some u) (hl : k < a.heap.size) (hr : some k ≠ r) : b.cell? ⟨k, i, none⟩ = some u :=
  (World.cell?_of_block (a := ⟨k, i, none⟩) (h.block k hl hr)).trans hk
theorem Wr.row_lt {w : World} {g : Nat} {bs : List Bool} {v : Value} (h : Wr w g bs v) (k : Nat) (e : v.ownBlock = some k) : k < w.heap.size ∧ g < k := by
  rcases h.row.2 with ⟨hv, _⟩ | ⟨g', cap, cur, hv, hb, hh, _⟩
  · subst hv; cases e
  · subst hv; injection e with e
    have := (Array.getElem?_eq_some_iff.1 hh).1
    simp at e; omega
/-- Bytes, where it is one. -/
theorem bytes_one (g : Nat) (bs : List Bool) (x : Nat) (hl : (bs.length + 7) / 8 = 1) (hx : pk bs 1 = [x]) (v : Value) (w : World) (hw : Wr w g bs v) :
    Calls Try.prog 13 #[.pointer (some ⟨g, 0, none⟩)] w fun e w' => ∃ r c, e = .returned (.slice (some ⟨r, 0, none⟩) 1 c) ∧ w'.cell? ⟨r, 0, none⟩ = some (.int .u8 x) ∧ w.heap.size ≤ r ∧ r < w'.heap.size ∧ w.grownBy w' none := by
  refine (bytes_calls g bs (by omega) v w hw).mono ?_
  rintro e w' ⟨A, c, rfl, h1, h2⟩
  rw [hl, hx] at h1
  obtain ⟨r, c', hv, hr, hlt⟩ := h1.form (by decide)
  injection hv with hA
  subst hA
  rw [hl]
  exact ⟨r, c, rfl, by rw [h1.cellAt 0 (by decide)]; rfl, hr, hlt, h2⟩

set_option maxRecDepth 100000 in
set_option maxHeartbeats 2000000 in
/-- **shown**: what must be in any case is. -/
theorem shown_calls (w : World) : Calls Try.prog 11 #[] w fun e w' => e = .returned (.bool true) ∧ w.grownBy w' none := by
  go_enter Try.func11, Try.ntmps11
  go_wp2_with (go_at_call 15; refine (put_calls w.heap.size 5 3 (by decide) [] (by decide) _ _ (wr_new w)).mono ?_; rintro e w1 ⟨rfl, v1, hw1, hr1, hf1⟩; have G1 : Hid (w.grownBy w1 none) := Lib.hid (hf1.over (World.grownBy_alloc w _ none) (Nat.le_refl _) (fun j e => by cases e)); rw [show ([] ++ hb 5 (inn 3)) = [true, false, true] by decide] at hw1; have W1 := Lib.hid hw1; clear hw1 hr1 hf1)
  go_wp2_with (go_at_call 13; refine (bytes_one w.heap.size [true, false, true] 160 (by decide) (by decide) v1 w1 W1.out).mono ?_; rintro e w2 ⟨r1, c1, rfl, d1, hr1, hl1, hg2⟩; have D1 := Lib.hid d1; have G2 : Hid (w.grownBy w2 none) := Lib.hid (only_trans G1.out hg2); have W2 := Lib.hid (W1.out.grown hg2); have N1 : Hid (some r1 ≠ v1.ownBlock) := Lib.hid (fun e => by have := (W1.out.row_lt r1 e.symm).1; omega); have S1 : Hid (r1 ≠ w.heap.size) := Lib.hid (by have := W1.out.blk.lt; omega); have V1 : Hid (∀ j, v1.ownBlock = some j → w.heap.size ≤ j) := Lib.hid (fun j e => by have := (W1.out.row_lt j e).2; omega); clear d1 hr1 hg2)
  go_wp2_with (go_at_call 25; refine (signW_calls w.heap.size (-1) 5 [true, false, true] (by decide) v1 w2 W2.out).mono ?_; rintro e w3 ⟨rfl, v2, hw3, hr3, hf3⟩; have D2 : Hid (w3.cell? ⟨r1, 0, none⟩ = some (.int .u8 (160 : Nat))) := Lib.hid (hf3.cell r1 0 _ D1.out hl1 S1.out N1.out); have G3 : Hid (w.grownBy w3 none) := Lib.hid (hf3.over G2.out (Nat.le_refl _) V1.out); have L3 : Hid (r1 < w3.heap.size) := Lib.hid (Nat.lt_of_lt_of_le hl1 hf3.size); rw [show ([true, false, true] ++ hb (uw (-1)) (inn 5)) = [true, false, true, true, true, true, true, true] by decide] at hw3; have W3 := Lib.hid hw3; clear hw3 hr3 hf3 hl1)
  go_wp2_with (go_at_call 13; refine (bytes_one w.heap.size [true, false, true, true, true, true, true, true] 191 (by decide) (by decide) v2 w3 W3.out).mono ?_; rintro e w4 ⟨r2, c2, rfl, d2, hr2, hl2, hg4⟩; have E1 : Hid (w4.cell? ⟨r1, 0, none⟩ = some (.int .u8 (160 : Nat))) := Lib.hid (grown_cell hg4 r1 0 _ D2.out L3.out (by simp)); have E2 := Lib.hid d2; have G4 : Hid (w.grownBy w4 none) := Lib.hid (only_trans G3.out hg4); have L4 : Hid (r1 < w4.heap.size) := Lib.hid (Nat.lt_of_lt_of_le L3.out hg4.size); have L42 := Lib.hid hl2; clear d2 hr2 hg4 hl2)
  go_wp2_with (go_at_call 16; refine (newReader_calls (w4.heap.size + 1) 1 1 _ [160] (by decide) (by decide) _ (Rd.lit160 w4) (by simp)).mono ?_; rintro e w5 ⟨g2, rfl, hr5, hs5, hg5⟩; have hg5' : w4.grownBy w5 none := only_trans (World.grownBy_alloc w4 _ none) hg5; have E15 : Hid (w5.cell? ⟨r1, 0, none⟩ = some (.int .u8 (160 : Nat)) ∧ r1 < w5.heap.size ∧ r1 ≠ g2) := Lib.hid ⟨grown_cell hg5' r1 0 _ E1.out L4.out (by simp), Nat.lt_of_lt_of_le L4.out hg5'.size, by have := L4.out; simp at hs5; omega⟩; have E25 : Hid (w5.cell? ⟨r2, 0, none⟩ = some (.int .u8 (191 : Nat)) ∧ r2 < w5.heap.size ∧ r2 ≠ g2) := Lib.hid ⟨grown_cell hg5' r2 0 _ E2.out L42.out (by simp), Nat.lt_of_lt_of_le L42.out hg5'.size, by have := L42.out; simp at hs5; omega⟩; have G5 : Hid (w.grownBy w5 none) := Lib.hid (only_trans G4.out hg5'); have P5 : Hid (w.heap.size ≤ g2) := Lib.hid (by have := G4.out.size; simp at hs5; omega); have R5 := Lib.hid hr5; clear hr5 hs5 hg5 hg5')
  go_wp2_with (first
    | (go_at_call 17; refine (get_calls g2 [160] 0 3 w5 R5.out).mono ?_; rintro e w6 ⟨rfl, hr6, hg6⟩; rw [show got [160] 0 (inn 3) = (5, true, 3) by decide] at hr6; rw [show got [160] 0 (inn 3) = (5, true, 3) by decide]; have F1 := grown_cell hg6 r1 0 _ E15.out.1 E15.out.2.1 (by have := E15.out.2.2; simp; exact this); have F2 := grown_cell hg6 r2 0 _ E25.out.1 E25.out.2.1 (by have := E25.out.2.2; simp; exact this); have G6 : Hid (w.grownBy w6 none) := Lib.hid (grown_over G5.out hg6 P5.out); have R6 := Lib.hid (rest_calls g2 [160] 3 w6 hr6); rw [show restB [160] 3 = true by decide] at R6; clear hr6 hg6)
    | (go_at_call 18; refine R6.out.mono ?_; rintro e w7 ⟨rfl, n, rfl⟩))
  go_ret
  exact ⟨rfl, grown_drawn G6.out n⟩
end Go.Proofs.Ytldgldibkibknaa
