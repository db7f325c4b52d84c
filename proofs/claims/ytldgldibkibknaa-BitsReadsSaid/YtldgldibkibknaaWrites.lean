/-
  The law BitsWrites, walked.
-/
import Derived.Test.YtldgldibkibknaaPuts
import Derived.Laws.AppendOwn
namespace Go.Proofs.Ytldgldibkibknaa
open Go.RowKit

/-- The bytes told, as they may be written over. -/
def Bq (w2 W : World) (A : Option Addr) (q : Nat) : Prop :=
  w2.grownBy W none ∧ (0 < q → ∃ gb, A = some ⟨gb, 0, none⟩ ∧ w2.heap.size ≤ gb ∧ ∃ cur, Blk W gb 5 cur ∧ ∀ i, i < q → ∃ x : Int, cur[i]? = some (.int .u8 x))
theorem bq_own {w2 W : World} {A : Option Addr} {q c : Nat} {P : List Nat} (hg : w2.grownBy W none) (h : W.ownsRow w2.heap.size 5 1 (.slice A q c) q (P.map bv)) : Bq w2 W A q := by
  refine ⟨hg, fun h0 => ?_⟩
  rcases h.2 with ⟨hv, hq⟩ | ⟨gb, cap, cur, hv, hb, hh, _, _, hs, hx⟩
  · omega
  · injection hv with hv
    refine ⟨gb, hv, hb, cur, hh, fun i hi => ?_⟩
    have hl : P.length = q := by have := h.1; simpa using this
    have : (cur.toList.take (q * 1))[i]? = (P.map bv)[i]? := by rw [hx]
    rw [List.getElem?_take_of_lt (by omega), List.getElem?_map, List.getElem?_eq_getElem (show i < P.length by omega)] at this
    exact ⟨(P[i]'(by omega) : Nat), by simpa [bv] using this⟩

theorem bq_put {w2 W : World} {gb q : Nat} {cur : Array Value} (hg : w2.grownBy W none) (h0 : w2.heap.size ≤ gb) (hb : Blk W gb 5 cur) (hc : ∀ i, i < q → ∃ x : Int, cur[i]? = some (.int .u8 x)) (k : Nat) (hk : k < q) (y : Int) :
    Bq w2 (W.setCell ⟨gb, k, none⟩ (.int .u8 y)) (some ⟨gb, 0, none⟩) q := by
  refine ⟨grown_over hg (World.grownBy_setCell' W gb k _) h0, fun _ => ⟨gb, rfl, h0, _, hb.put k _, fun i hi => ?_⟩⟩
  by_cases e : i = k
  · subst e
    obtain ⟨x, hx⟩ := hc i hi
    have hl : i < cur.size := (Array.getElem?_eq_some_iff.1 hx).1
    exact ⟨y, by simp [hl]⟩
  · obtain ⟨x, hx⟩ := hc i hi
    exact ⟨x, by rw [Array.getElem?_setIfInBounds_ne (fun h => e h.symm)]; exact hx⟩

set_option maxRecDepth 100000 in
set_option maxHeartbeats 4000000 in
theorem writes (A : Option Addr) (n cap : Nat) (l : List Pt) (w : World) (hn : n ≤ 9223372036854775807) (hR : Rp w w.heap.size A n l) :
    Calls Try.prog 3 #[.slice A n cap] w fun e w' => e = .returned (.bool true) ∧ Below w.heap.size w w' := by
  have HR := Lib.hid hR
  have HS := Lib.hid (shown_calls w)
  clear hR
  obtain ⟨L, hL⟩ : ∃ L, pbs (l.take 100) = L := ⟨_, rfl⟩
  have HLL : Hid (L.length ≤ 6400) := Lib.hid (by rw [← hL]; have := pbs_take_le l 100; omega)
  go_enter Try.func3, Try.ntmps3
  go_wp2_with fail
  refine HS.out.mono ?_
  rintro e w1 ⟨rfl, h1⟩
  have HG1 := Lib.hid h1
  clear h1
  go_wp2_with fail
  have HWC := write_calls A n cap l w.heap.size w1 hn (HR.out.grown HG1.out (Nat.le_refl _) (by simp)) HG1.out.size
  rw [hL] at HWC
  refine HWC.mono ?_
  clear HWC hL
  rintro e w2 ⟨g, v, rfl, h2, hg, hgr⟩
  have HG2 := Lib.hid (only_trans HG1.out hgr)
  have HW2 := Lib.hid h2
  clear h2 hg hgr HG1 HS HR
  go_wp2_with fail
  obtain ⟨q, hq⟩ : ∃ q, (L.length + 7) / 8 = q := ⟨_, rfl⟩
  obtain ⟨P, hP⟩ : ∃ P, pk L q = P := ⟨_, rfl⟩
  have HPL : Hid (P.length = q) := Lib.hid (by rw [← hP, pk_len])
  have HP8 : Hid (∀ x ∈ P, x < 256) := Lib.hid (by
    rw [← hP]; intro x hx; obtain ⟨i, _, rfl⟩ := List.mem_map.1 hx; exact by8_lt L i)
  have HBY := fun W (h : w2.grownBy W none) => bytes_calls g L (by have := HLL.out; omega) v W (HW2.out.grown h)
  rw [hq, hP] at HBY
  have HRB := refbytes_calls L _ rfl (by have := HLL.out; omega)
  rw [hq, hP] at HRB
  have HBYH := Lib.hid HBY
  have HRBH := Lib.hid HRB
  have hq800 : q ≤ 800 := by have := HLL.out; omega
  clear HBY HRB
  refine (HBYH.out w2 (World.grownBy.refl w2 none)).mono ?_
  rintro e w3 ⟨A3, c3, rfl, h3, hg3⟩
  have HG3 := Lib.hid hg3
  have HO3 := Lib.hid h3
  clear hg3 h3 hq hP
  go_wp2_with fail
  refine (HRBH.out w3).mono ?_
  rintro e w4 ⟨rfl, h4⟩
  have HG4 := Lib.hid (only_trans HG3.out h4)
  have HO4 := Lib.hid (World.ownsRow.kept (h := HO3.out) h4 (Classical.em _))
  clear h4 HG3 HO3
  obtain ⟨Z, hZ⟩ : ∃ Z, str P = Z := ⟨_, rfl⟩
  have ka : (Go.convert 27 9 (.slice A3 q c3)).run Try.prog w4 = .ok (.string Z) w4 := hZ ▸ run_string_rd w4 27 5 9 Try.underlying27 Try.underlying5 Try.underlying9 c3 (rd_of_own HO4.out)
  rw [hZ]
  go_wp2_with fail
  have HB4 := Lib.hid (bq_own HG4.out HO4.out)
  clear HG4 HO4 ka
  go_loopw [8] (fun i wr => ∃ k : Nat, k ≤ q ∧ i = .int .i64 k ∧ Hid (Bq w2 wr A3 q)) (fun i _ => q - (iv i).toNat)
  case atStart => exact ⟨0, by omega, rfl, HB4⟩
  case round =>
    obtain ⟨k, hk, rfl, HB⟩ := hrel
    by_cases hlt : k < q
    · obtain ⟨hg, hb⟩ := HB.out
      obtain ⟨gb, rfl, hgb, cur, hblk, hcur⟩ := hb (by omega)
      obtain ⟨x, hx⟩ := hcur k hlt
      have c0 := hblk.cell k
      have c9 := Blk.free hblk k
      rw [hx] at c0
      have HH := Lib.hid hblk
      have HC := Lib.hid hcur
      have HG := Lib.hid hg
      have HGB := Lib.hid hgb
      clear hg hb hblk hcur hgb hx HB
      have HN := Lib.hid (bq_put HG.out HGB.out HH.out HC.out k hlt)
      go_wp2_with fail
      go_roundw
      case rel => exact ⟨k + 1, by omega, by go_num, Lib.hid (HN.out _)⟩
      case measure => simp [iv]; omega
    · obtain rfl : q = k := by omega
      go_wp2_with fail
      refine (HBYH.out wr HB.out.1).mono ?_
      rintro e w5 ⟨A5, c5, rfl, h5, hg5⟩
      have ka : (Go.convert 27 9 (.slice A5 q c5)).run Try.prog w5 = .ok (.string Z) w5 := hZ ▸ run_string_rd w5 27 5 9 Try.underlying27 Try.underlying5 Try.underlying9 c5 (rd_of_own h5)
      have HG5 := Lib.hid (only_trans HG2.out (only_trans HB.out.1 hg5))
      clear h5 hg5
      go_wp2_with fail
      go_ret
      exact ⟨rfl, below_grown HG5.out⟩
end Go.Proofs.Ytldgldibkibknaa
