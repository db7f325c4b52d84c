/-
  What the functions of package crc do, each walked once: the sum of more bytes, the sum of bytes, what must be in any case.
-/
import Derived.Test.YtefgcbdfimpaoaaDoorProg
import Derived.Test.YtefgcbdfimpaoaaDoorMath
import Derived.Test.YtefgcbdfimpaoaaDoorBase
import Derived.Lib.SlBytesConst
namespace Go.Proofs.YtefgcbdfimpaoaaDoor
open Go.RowKit

/-- The table of what the halves of a byte do lies as the program's text lays it. -/
def Table (w : World) : Prop := 0 < w.heap.size ∧ ∀ i, i < 16 → w.cell? ⟨0, i, none⟩ = some (.int .u16 ((i * 4129 : Nat) : Int))
theorem Table.below {w w' : World} {B : Nat} (h : Table w) (hb : Below B w w') (hB : 0 < B) : Table w' :=
  ⟨Nat.lt_of_lt_of_le h.1 hb.size, fun i hi => (hb.cell (p := ⟨0, i, none⟩) hB).trans (h.2 i hi)⟩
theorem Table.alloc {w : World} (h : Table w) (o : Obj) : Table (w.alloc o) := h.below ((Below.refl w.heap.size w).alloc (Nat.le_refl _) o) h.1

theorem and15 (c : Nat) (h : c < 256) : bits BinOp.and IntKind.u8 (c : Int) 15 = ((c % 16 : Nat) : Int) := by
  have := u8_and_nat c 15 h (by decide)
  rw [show ((15 : Nat) : Int) = 15 from rfl] at this
  rw [this]
  have e := Nat.and_two_pow_sub_one_eq_mod c 4
  simp only [Nat.reducePow, Nat.reduceSub] at e
  rw [e]
theorem entry {w : World} (hT : Table w) (T h : Nat) (hT2 : T < 65536) (hh : h < 16) (a b : Int) (ea : a = ((T / 4096 : Nat) : Int)) (eb : b = (h : Int)) :
    ∃ x : Nat, bits BinOp.xor IntKind.u8 a b = (x : Int) ∧ x < 16 ∧ w.cell? ⟨0, x, none⟩ = some (.int .u16 ((x * 4129 : Nat) : Int)) ∧ Hid (x = T / 4096 ^^^ h) := by
  have hx : T / 4096 ^^^ h < 16 := Nat.xor_lt_two_pow (n := 4) (by omega) (by omega)
  exact ⟨T / 4096 ^^^ h, by rw [ea, eb]; exact u8_xor_nat _ _ (by omega) (by omega), hx, hT.2 _ hx, Lib.hid rfl⟩
theorem half_int (T h x : Nat) (hx : x = T / 4096 ^^^ h) (hx16 : x < 16) : bits BinOp.xor IntKind.u16 (IntKind.u16.wrap ((T : Int) * 16)) ((x : Int) * 4129) = ((Crc.half T h : Nat) : Int) := by
  have e1 : IntKind.u16.wrap ((T : Int) * 16) = ((T * 16 % 65536 : Nat) : Int) := by rw [IntKind.wrap_u16]; omega
  have e2 : (x : Int) * 4129 = ((x * 4129 : Nat) : Int) := by omega
  rw [e1, e2, u16_xor_nat _ _ (by omega) (by omega), hx]
  rfl
theorem u16_eq {a b : Int} (h : a = b) : Value.int .u16 a = Value.int .u16 b := by rw [h]
theorem ret_u16 {a b : Nat} (h : a = b) : Ending.returned (.int .u16 (a : Int)) = .returned (.int .u16 (b : Int)) := by rw [h]
theorem take_more {s k : Nat} {l : List Nat} (h : k < l.length) : Crc.more s (l.take (k + 1)) = Crc.step (Crc.more s (l.take k)) (l.getD k 0) := by
  rw [List.take_succ_eq_append_getElem h, Crc.more_snoc]
  simp [h]
theorem getD_lt {l : List Nat} (h : ∀ c ∈ l, c < 256) {k : Nat} (hk : k < l.length) : l.getD k 0 < 256 := by
  rw [List.getD_eq_getElem?_getD, List.getElem?_eq_getElem hk]; exact h _ (List.getElem_mem hk)

set_option maxHeartbeats 400000 in
/-- crc.More: the sum of more bytes; nothing is written. -/
theorem more_calls (s : Nat) (A : Option Addr) (n cap B : Nat) (l : List Nat) (w : World) (hs : s < 65536) (hn : n ≤ 9223372036854775807) (hT : Table w) (hlt : ∀ c ∈ l, c < 256)
    (hR : Rd w B A n (l.map bv)) :
    Calls Tryd.prog 11 #[.int .u16 (s : Int), .slice A n cap] w fun e w' => e = .returned (.int .u16 ((Crc.more s l : Nat) : Int)) ∧ w = w' := by
  have HR := Lib.hid hR
  have hl : l.length = n := by simpa using hR.1
  have HL := Lib.hid hl
  clear hR hl
  have HT := Lib.hid hT
  clear hT
  have Hlt := Lib.hid hlt
  clear hlt
  go_enter Tryd.func11, Tryd.ntmps11
  go_wp2
  go_loop [0, 11] (fun s6 i => ∃ (k : Nat) (S : Nat), k ≤ n ∧ i = .int .i64 k ∧ s6 = .int .u16 (S : Int) ∧ S < 65536 ∧ Hid (S = Crc.more s (l.take k))) (fun _ i => n - (intOf i).toNat)
  case atStart => exact ⟨0, s, Nat.zero_le _, rfl, rfl, hs, Lib.hid rfl⟩
  case round =>
    obtain ⟨k, S, hk, rfl, rfl, hS, HS⟩ := hrel
    by_cases hlt : k < n
    · obtain ⟨b, off, u, rfl, _, hu, hcell0⟩ := HR.out.at_ hlt
      obtain ⟨c, hcell, hc256, Hcc⟩ : ∃ c : Nat, w.cell? ⟨b, off + k, none⟩ = some (.int .u8 (c : Int)) ∧ c < 256 ∧ Hid (c = l.getD k 0) := by
        have hkl : k < l.length := by rw [HL.out]; exact hlt
        refine ⟨_, ?_, getD_lt Hlt.out hkl, Lib.hid rfl⟩
        rw [hcell0]
        rw [List.getElem?_map, List.getElem?_eq_getElem hkl] at hu
        simp at hu
        rw [← hu, List.getD_eq_getElem?_getD, List.getElem?_eq_getElem hkl]
        rfl
      clear hcell0 hu
      have i0 : ∀ w x0 x1, (Instr.index 36 (.agg #[x0, x1]) (.int .i64 0)).run Tryd.prog w = .ok x0 w := fun _ _ _ => by kernel_rfl
      have i1 : ∀ w x0 x1, (Instr.index 36 (.agg #[x0, x1]) (.int .i64 1)).run Tryd.prog w = .ok x1 w := fun _ _ _ => by kernel_rfl
      have ea := and15 c hc256
      go_wp2
      go_loop [0, 20] (fun s6 j => (s6 = .int .u16 (S : Int) ∧ j = .int .i64 0) ∨ (∃ (T : Nat), s6 = .int .u16 (T : Int) ∧ T < 65536 ∧ j = .int .i64 1 ∧ Hid (T = Crc.half S (c / 16))) ∨ (∃ (T : Nat), s6 = .int .u16 (T : Int) ∧ T < 65536 ∧ j = .int .i64 2 ∧ Hid (T = Crc.step S c))) (fun _ j => 2 - (intOf j).toNat)
      case atStart => exact .inl ⟨rfl, rfl⟩
      case round =>
        rcases hrel with ⟨rfl, rfl⟩ | ⟨T, rfl, hT2, rfl, HT2⟩ | ⟨T, rfl, hT2, rfl, HT2⟩
        · obtain ⟨x, hx, hx16, hxc, Hx⟩ := entry HT.out S (c / 16) hS (by omega) ((S : Int) / 4096) ((c : Int) / 16) (by omega) (by omega)
          go_wp2
          go_round
          case rel => exact .inr (.inl ⟨Crc.half S (c / 16), u16_eq (half_int S (c / 16) x Hx.out hx16), Crc.half_lt hS (by omega), rfl, Lib.hid rfl⟩)
          case measure => simp [intOf]
        · obtain ⟨x, hx, hx16, hxc, Hx⟩ := entry HT.out T (c % 16) hT2 (by omega) ((T : Int) / 4096) ((c : Int) % 16) (by omega) (by omega)
          go_wp2
          go_round
          case rel => exact .inr (.inr ⟨Crc.half T (c % 16), u16_eq (half_int T (c % 16) x Hx.out hx16), Crc.half_lt hT2 (by omega), rfl, Lib.hid (by rw [HT2.out]; rfl)⟩)
          case measure => simp [intOf]
        · go_wp2
          go_round
          case rel => exact ⟨k + 1, T, by omega, by go_num, rfl, hT2, Lib.hid (by rw [take_more (by rw [HL.out]; exact hlt), HT2.out, HS.out, Hcc.out])⟩
          case measure => simp [intOf]; omega
    · go_wp2
      go_ret
      exact ⟨ret_u16 (by rw [HS.out, List.take_of_length_le (by rw [HL.out]; omega)]), rfl⟩

/-- crc.Sum. -/
theorem sum_calls (A : Option Addr) (n cap B : Nat) (l : List Nat) (w : World) (hn : n ≤ 9223372036854775807) (hT : Table w) (hlt : ∀ c ∈ l, c < 256) (hR : Rd w B A n (l.map bv)) :
    Calls Tryd.prog 9 #[.slice A n cap] w fun e w' => e = .returned (.int .u16 ((Crc.more 65535 l : Nat) : Int)) ∧ w = w' := by
  have h := Lib.hid (more_calls 65535 A n cap B l w (by decide) hn hT hlt hR)
  clear hT hlt hR
  go_enter Tryd.func9, Tryd.ntmps9
  go_wp2_with (go_at_call 11; refine h.out.mono ?_; rintro e w' ⟨rfl, rfl⟩)
  go_ret
  exact ⟨rfl, rfl⟩

def nine : List Nat := [49, 50, 51, 52, 53, 54, 55, 56, 57]
theorem sum_nine : Crc.more 65535 nine = 10673 := by decide
theorem nine_lt : ∀ c ∈ nine, c < 256 := by decide
theorem sum_nil : Crc.more 65535 [] = 65535 := rfl
set_option maxHeartbeats 400000 in
theorem shown_calls (w : World) (hT : Table w) : Calls Tryd.prog 8 #[] w fun e w' => e = .returned (.bool true) ∧ Below w.heap.size w w' := by
  have HT := Lib.hid hT
  clear hT
  have kc := fun (w : World) (C : Array Value) (n c : Nat) => Lib.run_convert_bytes_const (P := Tryd.prog) w 22 5 C n c Tryd.underlying22 Tryd.underlying5
  have h1 := sum_calls (some ⟨w.heap.size, 0, none⟩) 9 9 (w.heap.size + 1) nine _ (by decide) (HT.out.alloc _) nine_lt (Rd.lit w #[.int .u8 49, .int .u8 50, .int .u8 51, .int .u8 52, .int .u8 53, .int .u8 54, .int .u8 55, .int .u8 56, .int .u8 57] 5 (9, 10))
  rw [sum_nine] at h1
  have H1 := Lib.hid h1
  clear h1
  go_enter Tryd.func8, Tryd.ntmps8
  go_wp2_with fail
  refine H1.out.mono ?_
  rintro e w1 ⟨rfl, rfl⟩
  go_wp2_with fail
  refine (sum_calls none 0 0 0 [] _ (by decide) (HT.out.alloc _) (by simp) (Rd.nil_ _ _ _)).mono ?_
  rw [sum_nil]
  rintro e w1 ⟨rfl, rfl⟩
  go_wp2_with fail
  go_ret
  exact ⟨rfl, (Below.refl _ _).alloc (Nat.le_refl _) _⟩
end Go.Proofs.YtefgcbdfimpaoaaDoor
