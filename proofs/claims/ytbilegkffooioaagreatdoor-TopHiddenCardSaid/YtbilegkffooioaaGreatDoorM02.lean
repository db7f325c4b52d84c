
import Derived.Test.YtbilegkffooioaaGreatDoorM01
import Derived.Test.YtbilegkffooioaaGreatDoorRows
import Derived.Shelf.Abstract
import Derived.Shelf.RegionOpen
import Derived.OwnWalkIn
import Derived.TacticsInMore
import Derived.LoopNIn
import Derived.LoopIn
import Derived.Laws.Bits64b
namespace Go.Proofs.YtbilegkffooioaaGreatDoor
open Go.RowKit Go.Shelf
attribute [local go_sem] Oper.semAt_some

/-- One bit as a byte. -/
def bt (b : Bool) : Value := .int .u8 (if b then 1 else 0)
/-- The first k of N's bits, the highest of m first. -/
def ht (N m k : Nat) : List Bool := (List.range k).map fun j => N.testBit (m - 1 - j)
theorem ht_succ (N m k : Nat) : ht N m (k + 1) = ht N m k ++ [N.testBit (m - 1 - k)] := by simp [ht, List.range_succ]
theorem ht_len (N m k : Nat) : (ht N m k).length = k := by simp [ht]
def hb (N m : Nat) : List Bool := ht N m m
theorem ht_pre (N m k : Nat) (h : k ≤ m) : ht N m k <+: hb N m := by
  unfold hb ht
  rw [show m = k + (m - k) by omega, List.range_add, List.map_append]
  simp only [show k + (m - k) = m by omega]
  exact List.prefix_append _ _

def iv : Value → Int | .int _ x => x | _ => 0
theorem bit_and (N j : Nat) (hN : N < 18446744073709551616) : bits .and .u64 ((N : Int) / 2 ^ j) 1 = if N.testBit j then 1 else 0 := by
  rw [show ((N : Int) / 2 ^ j) = ((N / 2 ^ j : Nat) : Int) by simp]
  refine (bits_and_u64_nat (N / 2 ^ j) 1 (Nat.lt_of_le_of_lt (Nat.div_le_self _ _) hN) (by decide)).trans ?_
  rw [Nat.and_one_is_mod, Nat.testBit_eq_decide_div_mod_eq]
  by_cases h : N / 2 ^ j % 2 = 1
  · simp [h]
  · have : N / 2 ^ j % 2 = 0 := by omega
    simp [this]
/-- What blocks B1 and B2 are they stay. -/
def Kp (B1 B2 : Nat) (A C : World) : Prop := ∀ k o, k = B1 ∨ k = B2 → A.heap[k]? = some o → C.heap[k]? = some o
theorem Kp.blk {B1 B2 : Nat} {A C : World} (h : Kp B1 B2 A C) {k : Nat} {t : TypeId} {cs : Array Value} (hk : k = B1 ∨ k = B2) (hb : Blk A k t cs) : Blk C k t cs := h k _ hk hb

set_option maxRecDepth 100000 in
set_option maxHeartbeats 2000000 in
theorem high1_in (n : Nat) (hn : 1 ≤ n) (l B1 B2 N m : Nat) (hN : N < 18446744073709551616) (hm : m ≤ 64) (J Jx : List Bool → World → Prop)
    (hY : ∀ pre x W, J pre W → pre.length < m → YieldAt Fence.wide (n - 1) Tryz.prog l #[bt x] W fun e W' =>
      (e = .returned (.bool true) ∧ J (pre ++ [x]) W' ∧ Kp B1 B2 W W') ∨ (e = .returned (.bool false) ∧ Jx (pre ++ [x]) W'))
    (W : World) (h1 : Blk W B1 3 #[.int .i64 m]) (h2 : Blk W B2 182 #[.int .u64 N]) (h0 : J [] W) :
    CallsIn Fence.wide n Tryz.prog 243 #[.func (.yield l) #[] #[], .pointer (some ⟨B1, 0, none⟩), .pointer (some ⟨B2, 0, none⟩)] W fun e W' => (∃ v, e = .returned v) ∧
      ((∃ ys, ys = hb N m ∧ J ys W') ∨ (∃ pre, pre <+: hb N m ∧ Jx pre W')) := by
  refine callsIn_of_wp Tryz.func243 rfl trivial ?_ rfl
  simp only [Tryz.ntmps243, List.size_toArray, List.length_cons, List.length_nil, Nat.reduceAdd, Nat.reduceSub, Array.replicate_succ, Array.replicate_zero, List.push_toArray, List.append_toArray, List.nil_append, List.cons_append]
  have c1 := h1.cell 0
  simp only [List.getElem?_toArray, List.getElem?_cons_zero] at c1
  have hs0 : IntKind.i64.wrap ((m:Int) - 1) = (m:Int) - 1 := IntWalk.i64_in _ (by omega)
  gi_wp2
  gi_loopw [4] (fun i wr => ∃ k : Nat, k ≤ m ∧ i = .int .i64 ((m:Int) - 1 - k) ∧ Blk wr B1 3 #[.int .i64 m] ∧ Blk wr B2 182 #[.int .u64 N] ∧ J (ht N m k) wr)
    (fun i wr => (iv i + 1).toNat)
  case atStart =>
    exact ⟨0, by omega, by simp, h1, h2, h0⟩
  case round =>
    obtain ⟨k, hk, rfl, b1, b2, hJ⟩ := hrel
    rcases Nat.lt_or_ge k m with hlt | hge
    · have c2 := b2.cell 0
      simp only [List.getElem?_toArray, List.getElem?_cons_zero] at c2
      obtain ⟨fn, tmps, assign, body, hy, hR⟩ := hY (ht N m k) (N.testBit (m - 1 - k)) wr hJ (by rw [ht_len]; exact hlt)
      obtain ⟨c, hc⟩ : ∃ c : Int, (if N.testBit (m - 1 - k) then 1 else 0) = c := ⟨_, rfl⟩
      have hc1 : bits .and .u64 ((N : Int) / 2 ^ (m - 1 - k)) 1 = c := by rw [← hc]; exact bit_and N _ hN
      have hc2 : IntKind.u8.wrap c = c := by rw [← hc]; split <;> rfl
      have hb : bt (N.testBit (m - 1 - k)) = .int .u8 c := by unfold bt; rw [hc]
      rw [hb] at hy
      have H := Lib.hid hc
      clear hc
      have es : IntKind.i64.wrap ((m : Int) - 1 - k - 1) = (m : Int) - 1 - k - 1 := IntWalk.i64_in _ (by omega)
      gi_wp2
      refine hR.mono ?_
      rintro e W3 (⟨rfl, hJ3, hk3⟩ | ⟨rfl, hJx3⟩)
      · gi_wp2
        go_roundw
        case rel => exact ⟨k + 1, hlt, by simp; omega, hk3.blk (.inl rfl) b1, hk3.blk (.inr rfl) b2, by rw [ht_succ]; exact hJ3⟩
        case measure => simp [iv]; omega
      · gi_wp2
        refine bodyPost_ret (results_none rfl _ _ _) rfl ?_
        exact ⟨⟨_, rfl⟩, .inr ⟨_, by rw [← ht_succ]; exact ht_pre N m (k + 1) hlt, hJx3⟩⟩
    · obtain rfl : k = m := by omega
      gi_wp2
      go_end0
      exact ⟨⟨_, rfl⟩, .inl ⟨_, rfl, hJ⟩⟩

/-- 'high(n, bits)': both are boxed; the function value captures the boxes. -/
theorem high_in (n : Nat) (N : Int) (m : Int) (w : World) :
    CallsIn Fence.wide n Tryz.prog 178 #[.int .u64 N, .int .i64 m] w fun e w' => e = .returned (.func (.func 243) #[] #[.pointer (some ⟨w.heap.size + 1, 0, none⟩), .pointer (some ⟨w.heap.size, 0, none⟩)]) ∧
      w' = (w.alloc (.cells #[.int .u64 N] 182)).alloc (.cells #[.int .i64 m] 3) := by
  refine callsIn_of_wp Tryz.func178 rfl trivial ?_ rfl
  simp only [Tryz.ntmps178, List.size_toArray, List.length_cons, List.length_nil, Nat.reduceAdd, Nat.reduceSub, Array.replicate_succ, Array.replicate_zero, List.push_toArray, List.append_toArray, List.nil_append, List.cons_append]
  gi_wp2
  go_ret
  exact ⟨by simp, rfl⟩

/-- How many bits are meant. -/
def inn (x : Int) : Nat := (max 0 (min x 64)).toNat
theorem inn_le (x : Int) : inn x ≤ 64 := by unfold inn; omega
theorem within_in (n : Nat) (x : Int) (w : World) :
    CallsIn Fence.wide n Tryz.prog 179 #[.int .i64 x] w fun e w' => e = .returned (.int .i64 (inn x)) ∧ w' = w := by
  refine callsIn_of_wp Tryz.func179 rfl trivial ?_ rfl
  simp only [Tryz.ntmps179, List.size_toArray, List.length_cons, List.length_nil, Nat.reduceAdd, Nat.reduceSub, Array.replicate_succ, Array.replicate_zero, List.push_toArray, List.append_toArray, List.nil_append, List.cons_append]
  have hi : Hid (((inn x : Nat) : Int) = max 0 (min x 64)) := Lib.hid (by unfold inn; omega)
  gi_wp2
  all_goals
    have hi := hi.out
    go_ret
    exact ⟨ret_i64 (by omega), rfl⟩

/-- What it hands back yields N's lowest m bits, the highest first. -/
theorem high_stops (n : Nat) (hn : 1 ≤ n) (B1 B2 N m : Nat) (hN : N < 18446744073709551616) (hm : m ≤ 64) (w : World) (h1 : Blk w B1 3 #[.int .i64 m]) (h2 : Blk w B2 182 #[.int .u64 N]) :
    SeqStopsK Fence.wide n Tryz.prog 243 #[.pointer (some ⟨B1, 0, none⟩), .pointer (some ⟨B2, 0, none⟩)] (fun x : Bool => #[bt x]) (Kp B1 B2) (fun ys => ys = hb N m) (fun pre => pre <+: hb N m) m w := fun l J Jx W hW _ _ hY h0 =>
  high1_in n hn l B1 B2 N m hN hm J Jx hY W (h1.below hW h1.lt) (h2.below hW h2.lt) h0

end Go.Proofs.YtbilegkffooioaaGreatDoor
