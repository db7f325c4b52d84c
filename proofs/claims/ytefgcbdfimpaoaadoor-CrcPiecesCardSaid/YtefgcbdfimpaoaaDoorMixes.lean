/-
  The law CrcMixes, walked: for any three rows of bytes and any two sums it returns true and writes nothing that was there.
-/
import Derived.Test.YtefgcbdfimpaoaaDoorAid
import Derived.Deep.OwnRows
import Derived.StillTailTactics
import Derived.Deep.QuietTactic
import Derived.BigQuiet
namespace Go.Proofs.YtefgcbdfimpaoaaDoor
open Go.RowKit

theorem Rd.byte {w : World} {B n : Nat} {A : Option Addr} {l : List Nat} (h : Rd w B A n (l.map bv)) {k : Nat} (hk : k < n) :
    ∃ b off c, A = some ⟨b, off, none⟩ ∧ b < B ∧ w.cell? ⟨b, off + k, none⟩ = some (.int .u8 ((c : Nat) : Int)) ∧ Hid (c = l.getD k 0) := by
  obtain ⟨b, off, u, e, hb, hu, hc⟩ := h.at_ hk
  have hkl : k < l.length := by have := h.1; simp at this; omega
  refine ⟨b, off, _, e, hb, ?_, Lib.hid rfl⟩
  rw [hc]
  rw [List.getElem?_map, List.getElem?_eq_getElem hkl] at hu
  simp at hu
  rw [← hu, List.getD_eq_getElem?_getD, List.getElem?_eq_getElem hkl]
  rfl
theorem fewest (la lb lc N : Nat) : ∃ m, m ≤ la ∧ m ≤ lb ∧ m ≤ lc ∧ m ≤ N ∧ (m : Int) = min (min (min (la : Int) lb) lc) N :=
  ⟨min (min (min la lb) lc) N, by omega, by omega, by omega, by omega, by omega⟩

/-- What the first k bytes of the mix are; behind them noughts. -/
def mixed (la lb lc : List Nat) (k : Nat) (i : Nat) : Value := if i < k then bv (la.getD i 0 ^^^ lb.getD i 0 ^^^ lc.getD i 0) else .int .u8 0
theorem min_two {P : Program} (a b : Int) (w : World) : (Builtin.min2 (.int .i64 a) (.int .i64 b)).run P w = .ok (.int .i64 (min a b)) w := by
  simp [Builtin.min2, Int.min_def]
  split <;> split <;> first | rfl | (congr 2; omega) | omega
theorem min_four {P : Program} (a b c d : Int) (w : World) : (Builtin.min_ #[3, 3, 3, 3] 3 #[.int .i64 a, .int .i64 b, .int .i64 c, .int .i64 d]).run P w = .ok (.int .i64 (min (min (min a b) c) d)) w := by
  simp [Builtin.min_, min_two]
theorem lt_of {l : List Nat} (h : ∀ c ∈ l, c < 256) (k : Nat) {c : Nat} (e : c = l.getD k 0) : c < 256 := by
  rw [e]
  by_cases hk : k < l.length
  · exact getD_lt h hk
  · rw [List.getD_eq_getElem?_getD, List.getElem?_eq_none (by omega)]; decide
theorem mixed_step {wr : World} {X m k xa xb xc : Nat} {la lb lc : List Nat} (h : wr.rowIs X 5 m (mixed la lb lc k)) (ea : xa = la.getD k 0) (eb : xb = lb.getD k 0) (ec : xc = lc.getD k 0) (ha : xa < 256) (hb : xb < 256) (hc : xc < 256) :
    (wr.setCell ⟨X, k, none⟩ (.int .u8 (bits BinOp.xor IntKind.u8 (bits BinOp.xor IntKind.u8 (xa : Int) (xb : Int)) (xc : Int)))).drew.rowIs X 5 m (mixed la lb lc (k + 1)) := by
  refine World.rowIs.drew ((h.set k _).congr fun i _ => ?_)
  have hab : xa ^^^ xb < 256 := Nat.xor_lt_two_pow (n := 8) ha hb
  rw [u8_xor_nat _ _ ha hb, u8_xor_nat _ _ hab hc]
  unfold mixed
  by_cases hi : i = k
  · subst hi
    rw [if_pos rfl, if_pos (by omega), ea, eb, ec]; rfl
  · by_cases hk : i < k
    · rw [if_neg hi, if_pos hk, if_pos (by omega)]
    · rw [if_neg hi, if_neg hk, if_neg (by omega)]
theorem zip_lt {a b : List Nat} (ha : ∀ c ∈ a, c < 256) (hb : ∀ c ∈ b, c < 256) : ∀ c ∈ List.zipWith (· ^^^ ·) a b, c < 256 := by
  induction a generalizing b with
  | nil => intro c hc; simp at hc
  | cons x a ih =>
    cases b with
    | nil => intro c hc; simp at hc
    | cons y b =>
      intro c hc
      simp only [List.zipWith_cons_cons, List.mem_cons] at hc
      rcases hc with rfl | hc
      · exact Nat.xor_lt_two_pow (n := 8) (ha x (by simp)) (hb y (by simp))
      · exact ih (fun c hc => ha c (by simp [hc])) (fun c hc => hb c (by simp [hc])) c hc
theorem mixed_reads {wr : World} {X m B1 B2 B3 : Nat} {A1 A2 A3 : Option Addr} {la lb lc : List Nat} (h : wr.rowIs X 5 m (mixed la lb lc m)) (ha : Rd wr B1 A1 m ((la.take m).map bv)) (hb : Rd wr B2 A2 m ((lb.take m).map bv)) (hc : Rd wr B3 A3 m ((lc.take m).map bv)) :
    Rd wr wr.heap.size (some ⟨X, 0, none⟩) m ((List.zipWith (· ^^^ ·) (List.zipWith (· ^^^ ·) (la.take m) (lb.take m)) (lc.take m)).map bv) := by
  have h1 : (la.take m).length = m := by simpa using ha.1
  have h2 : (lb.take m).length = m := by simpa using hb.1
  have h3 : (lc.take m).length = m := by simpa using hc.1
  refine ⟨by simp at *; omega, fun _ => ⟨X, 0, rfl, h.lt, fun j u hu => ?_⟩⟩
  have hj : j < m := by
    rcases Nat.lt_or_ge j m with h' | h'
    · exact h'
    · rw [List.getElem?_eq_none (by simp at *; omega)] at hu; cases hu
  rw [Nat.zero_add, h.cell hj]
  simp at h1 h2 h3
  unfold mixed
  rw [if_pos hj, ← hu]
  simp [List.getElem?_zipWith, hj, show j < la.length by omega, show j < lb.length by omega, show j < lc.length by omega]
theorem Rd.drewN {w : World} {B n : Nat} {A : Option Addr} {xs : List Value} (h : Rd w B A n xs) (k : Nat) : Rd (w.drewN k) B A n xs := h
theorem below_drawn {B : Nat} {a w : World} (h : Below B a w) (n : Nat) : Below B a (w.drewN n) := ⟨h.os, h.tape, h.output, h.size, h.block⟩
theorem quiet1 {P : Program} {f : FuncId} {args : Array Value} {w : World} {n : Nat} {v : Value} (h : Calls P f args (w.drewN n) fun e w' => e = .returned v ∧ w.drewN n = w') :
    Calls P f args (w.drewN n) fun e w'' => e = .returned v ∧ ∃ m, w'' = w.drewN m :=
  h.mono fun _ _ ⟨he, hm⟩ => ⟨he, n, hm.symm⟩
theorem xor_eq (Sx Sa Sb Sc : Nat) (h1 : Sa < 65536) (h2 : Sb < 65536) (h3 : Sc < 65536) (e : Sx = Sa ^^^ Sb ^^^ Sc) :
    ((Sx : Int) == bits BinOp.xor IntKind.u16 (bits BinOp.xor IntKind.u16 (Sa : Int) (Sb : Int)) (Sc : Int)) = true := by
  rw [u16_xor_nat _ _ h1 h2, u16_xor_nat _ _ (Crc.lt16 h1 h2) h3, e]
  simp

set_option maxHeartbeats 400000 in
theorem mixes (A B C : Option Addr) (na nb nc ca cb cc : Nat) (la lb lc : List Nat) (s t : Nat) (w : World) (hs : s < 65536) (ht : t < 65536)
    (hna : na ≤ ca) (hnb : nb ≤ cb) (hnc : nc ≤ cc) (hT : Table w)
    (hlta : ∀ c ∈ la, c < 256) (hltb : ∀ c ∈ lb, c < 256) (hltc : ∀ c ∈ lc, c < 256)
    (hA : Rd w w.heap.size A na (la.map bv)) (hB : Rd w w.heap.size B nb (lb.map bv)) (hC : Rd w w.heap.size C nc (lc.map bv)) :
    Calls Tryd.prog 6 #[.slice A na ca, .slice B nb cb, .slice C nc cc, .int .u16 (s : Int), .int .u16 (t : Int)] w fun e w' => e = .returned (.bool true) ∧ Below w.heap.size w w' := by
  have HT := Lib.hid hT
  have HA := Lib.hid hA
  have HB := Lib.hid hB
  have HC := Lib.hid hC
  have Hlta := Lib.hid hlta
  have Hltb := Lib.hid hltb
  have Hltc := Lib.hid hltc
  obtain ⟨m, hma, hmb, hmc, hm5, hmin⟩ := fewest na nb nc 500
  clear hT hA hB hC hlta hltb hltc
  have Hmin := Lib.hid hmin
  clear hmin
  go_enter Tryd.func6, Tryd.ntmps6
  go_wp2_with fail
  refine (shown_calls _ HT.out).mono ?_
  rintro e w1 ⟨rfl, hB1⟩
  have HB1 := Lib.hid hB1
  clear hB1
  have hmn : ∀ w, (Builtin.min_ #[3, 3, 3, 3] 3 #[.int .i64 (na : Int), .int .i64 (nb : Int), .int .i64 (nc : Int), .int .i64 500]).run Tryd.prog w = .ok (.int .i64 (m : Int)) w := fun w => by
    rw [Hmin.out]
    exact min_four _ _ _ _ w
  have hmk := run_make_row' (P := Tryd.prog) 22 5 (.int .u8 0) 1 Tryd.underlying22 Tryd.info5 rfl .i64 .i64 m (by omega) (by omega)
  have HR0 := Lib.hid (World.rowIs_made w1 (.int .u8 0) m 5)
  go_wp2_with fail
  obtain ⟨w2, hw2⟩ : ∃ w2, w1.alloc (.cells (madeCells #[.int .u8 0] m) 5) = w2 := ⟨_, rfl⟩
  obtain ⟨X, hX⟩ : ∃ X, w1.heap.size = X := ⟨_, rfl⟩
  have HB2 : Hid (Below w.heap.size w w2) := Lib.hid (by rw [← hw2]; exact HB1.out.alloc HB1.out.size _)
  have HR2 : Hid (w2.rowIs X 5 m (mixed la lb lc 0)) := Lib.hid (by rw [← hw2, ← hX]; exact HR0.out)
  have HX : Hid (w.heap.size ≤ X) := Lib.hid (by rw [← hX]; exact HB1.out.size)
  rw [hw2, hX]
  clear HR0 hmn hmk
  have Hw2 := Lib.hid hw2
  clear hw2
  have HXe := Lib.hid hX
  clear hX
  go_loopw [14] (fun i wr => ∃ k : Nat, k ≤ m ∧ i = .int .i64 k ∧ Hid (wr.rowIs X 5 m (mixed la lb lc k)) ∧ Hid (Below w.heap.size w wr)) (fun i _ => m - (intOf i).toNat)
  case atStart => exact ⟨0, Nat.zero_le _, rfl, HR2, HB2⟩
  case round =>
    obtain ⟨k, hk, rfl, HR, HBr⟩ := hrel
    by_cases hlt : k < m
    · obtain ⟨ba, oa, xa, rfl, hba, hxa, Hxa⟩ := (HA.out.below HBr.out).byte (show k < na by omega)
      obtain ⟨bb, ob, xb, rfl, hbb, hxb, Hxb⟩ := (HB.out.below HBr.out).byte (show k < nb by omega)
      obtain ⟨bc, oc, xc, rfl, hbc, hxc, Hxc⟩ := (HC.out.below HBr.out).byte (show k < nc by omega)
      have hx1 := HR.out.cell hlt
      have hx2 := HR.out.frozen k
      go_wp2_with fail
      go_region
      go_wp2
      go_roundw
      case rel => exact ⟨k + 1, by omega, by go_num, Lib.hid (mixed_step HR.out Hxa.out Hxb.out Hxc.out (lt_of Hlta.out _ Hxa.out) (lt_of Hltb.out _ Hxb.out) (lt_of Hltc.out _ Hxc.out)), Lib.hid (HBr.out.setCell (p := ⟨X, k, none⟩) HX.out _).drew⟩
      case measure => simp [intOf]; omega
    · obtain rfl : k = m := by omega
      have HTr := Lib.hid (HT.out.below HBr.out HT.out.1)
      obtain ⟨l, hl⟩ : ∃ l, l = List.zipWith (· ^^^ ·) (List.zipWith (· ^^^ ·) (la.take k) (lb.take k)) (lc.take k) := ⟨_, rfl⟩
      have HLa := Lib.hid (((HA.out.below HBr.out).take_ hma).of_ List.map_take.symm)
      have HLb := Lib.hid (((HB.out.below HBr.out).take_ hmb).of_ List.map_take.symm)
      have HLc := Lib.hid (((HC.out.below HBr.out).take_ hmc).of_ List.map_take.symm)
      have HLx : Hid (Rd wr wr.heap.size (some ⟨X, 0, none⟩) k (l.map bv)) := Lib.hid (by rw [hl]; exact mixed_reads HR.out HLa.out HLb.out HLc.out)
      have Ht := fun {l : List Nat} (h : ∀ c ∈ l, c < 256) => (fun c hc => h c (List.mem_of_mem_take hc) : ∀ c ∈ l.take k, c < 256)
      have hx : ∀ c ∈ l, c < 256 := by rw [hl]; exact zip_lt (zip_lt (Ht Hlta.out) (Ht Hltb.out)) (Ht Hltc.out)
      have e1 : Crc.more 65535 l = Crc.more 65535 (la.take k) ^^^ Crc.more 65535 (lb.take k) ^^^ Crc.more 65535 (lc.take k) := by
        have la1 : (la.take k).length = k := by simpa using HLa.out.1
        have lb1 : (lb.take k).length = k := by simpa using HLb.out.1
        have lc1 : (lc.take k).length = k := by simpa using HLc.out.1
        rw [hl, ← Crc.more_xor _ _ _ _ (by omega) (by decide) (by decide) (Ht Hlta.out) (Ht Hltb.out), ← Crc.more_xor _ _ _ _ (by rw [List.length_zipWith]; omega) (by decide) (by decide) (zip_lt (Ht Hlta.out) (Ht Hltb.out)) (Ht Hltc.out)]
        rfl
      have f1 := Crc.more_lt (s := 65535) (by decide) (Ht Hlta.out)
      have f2 := Crc.more_lt (s := 65535) (by decide) (Ht Hltb.out)
      have f3 := Crc.more_lt (s := 65535) (by decide) (Ht Hltc.out)
      have qx := fun n => quiet1 (sum_calls _ _ k _ l (wr.drewN n) (by omega) HTr.out hx (HLx.out.drewN n))
      have qa := fun n => quiet1 (sum_calls _ _ ca _ _ (wr.drewN n) (by omega) HTr.out (Ht Hlta.out) (HLa.out.drewN n))
      have qb := fun n => quiet1 (sum_calls _ _ cb _ _ (wr.drewN n) (by omega) HTr.out (Ht Hltb.out) (HLb.out.drewN n))
      have qc := fun n => quiet1 (sum_calls _ _ cc _ _ (wr.drewN n) (by omega) HTr.out (Ht Hltc.out) (HLc.out.drewN n))
      have qs := fun n => quiet1 (more_calls s _ _ k _ l (wr.drewN n) hs (by omega) HTr.out hx (HLx.out.drewN n))
      have qt := fun n => quiet1 (more_calls t _ _ k _ l (wr.drewN n) ht (by omega) HTr.out hx (HLx.out.drewN n))
      have ei := Crc.more_inj l s t hs ht hx
      generalize Crc.more 65535 l = Sx at *
      generalize Crc.more 65535 (la.take k) = Sa at *
      generalize Crc.more 65535 (lb.take k) = Sb at *
      generalize Crc.more 65535 (lc.take k) = Sc at *
      generalize Crc.more s l = Ss at *
      generalize Crc.more t l = St at *
      have Qx := Lib.hid qx
      have Qa := Lib.hid qa
      have Qb := Lib.hid qb
      have Qc := Lib.hid qc
      have Qs := Lib.hid qs
      have Qt := Lib.hid qt
      have E := xor_eq Sx Sa Sb Sc f1 f2 f3 e1
      clear qx qa qb qc qs qt e1 f1 f2 f3 hx hl HLx HLa HLb HLc Ht
      by_cases hst : s = t
      · obtain rfl : Ss = St := ei.2 hst
        subst hst
        clear ei
        go_wp2_with fail
        go_quiet (first | (go_at_call 9; with_reducible exact Qx.out _) | (go_at_call 9; with_reducible exact Qa.out _) | (go_at_call 9; with_reducible exact Qb.out _) | (go_at_call 9; with_reducible exact Qc.out _) | (go_at_call 11; with_reducible exact Qs.out _) | (go_at_call 11; with_reducible exact Qt.out _))
        go_wp2
        go_ret
        exact ⟨rfl, below_drawn HBr.out nq⟩
      · have d1 : ((s : Int) == (t : Int)) = false := beq_eq_false_iff_ne.2 (by omega)
        have d2 : ((Ss : Int) == (St : Int)) = false := beq_eq_false_iff_ne.2 (by omega)
        clear ei hst
        go_wp2_with fail
        go_quiet (first | (go_at_call 9; with_reducible exact Qx.out _) | (go_at_call 9; with_reducible exact Qa.out _) | (go_at_call 9; with_reducible exact Qb.out _) | (go_at_call 9; with_reducible exact Qc.out _) | (go_at_call 11; with_reducible exact Qs.out _) | (go_at_call 11; with_reducible exact Qt.out _))
        go_wp2
        go_ret
        exact ⟨rfl, below_drawn HBr.out nq⟩
end Go.Proofs.YtefgcbdfimpaoaaDoor
