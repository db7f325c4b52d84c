/-
  The law BitsApart, walked.
-/
import Derived.Test.YtldgldibkibknaaRq
import Derived.Test.YtldgldibkibknaaJoins
namespace Go.Proofs.Ytldgldibkibknaa
open Go.RowKit

theorem u8_and15 (x : Nat) (h : x < 256) : bits .and .u8 (x : Int) 15 = ((x % 16 : Nat) : Int) :=
  (by decide +kernel : ∀ y : Fin 256, bits .and .u8 ((y.val : Nat) : Int) 15 = ((y.val % 16 : Nat) : Int)) ⟨x, h⟩
/-- Three readers of the call's own that lie apart; the first and the third are at one place. -/
structure Trio (w0 w : World) (gx gy gz : Nat) (l : List Nat) (a c : Nat) (Ax Ay Az : Option Addr) : Prop where
  grown : w0.grownBy w none
  x : Rq w gx Ax l a
  y : Rq w gy Ay l c
  z : Rq w gz Az l a
  xy : Ap gx Ax gy Ay
  xz : Ap gx Ax gz Az
  yz : Ap gy Ay gz Az
  hx : w0.heap.size ≤ gx
  hy : w0.heap.size ≤ gy
  hz : w0.heap.size ≤ gz
theorem grown_one {a b c : World} {k : Nat} (h : a.grownBy b none) (j : b.grownBy c (some k)) (hk : a.heap.size ≤ k) : a.grownBy c none := grown_over h j hk

set_option maxRecDepth 100000 in
set_option maxHeartbeats 4000000 in
theorem apart (A : Option Addr) (n cap : Nat) (l0 : List Nat) (A2 : Option Addr) (m cap2 : Nat) (l2 : List Nat) (w : World) (hn : n ≤ cap) (hcap : cap ≤ 9223372036854775807) (hm : m ≤ 9223372036854775807) (hlt : ∀ c ∈ l0, c < 256) (hlt2 : ∀ c ∈ l2, c < 256)
    (hR : Rd w w.heap.size A n (l0.map bv)) (hR2 : Rd w w.heap.size A2 m (l2.map bv)) :
    Calls Try.prog 7 #[.slice A n cap, .slice A2 m cap2] w fun e w' => e = .returned (.bool true) ∧ Below w.heap.size w w' := by
  obtain ⟨q, hq, hq50, hqc⟩ := fewer n 50
  obtain ⟨l, Hl⟩ : ∃ l, Hid (l = l0.take q) := ⟨_, Lib.hid rfl⟩
  have HR := Lib.hid ((hR.take_ hq).of_ (by rw [Hl.out, List.map_take]) : Rd w w.heap.size A q (l.map bv))
  have HLT : Hid (∀ c ∈ l, c < 256) := Lib.hid (fun c hc => hlt c (List.mem_of_mem_take (Hl.out ▸ hc)))
  have HR2 := Lib.hid hR2
  have HLT2 := Lib.hid hlt2
  have HS := Lib.hid (shown_calls w)
  clear hR hlt hR2 hlt2 Hl
  rcases hqc with ⟨rfl, h⟩ | ⟨rfl, h⟩
  all_goals
    go_enter Try.func7, Try.ntmps7
    go_wp2_with fail
    refine HS.out.mono ?_
    rintro e w1 ⟨rfl, h1⟩
    have HG1 := Lib.hid h1
    clear h1
    go_wp2_with fail
    refine (newq_calls w.heap.size _ _ A l (by omega) HLT.out w1 (HR.out.keep fun p hp => World.cell?_of_block (HG1.out.block _ hp (by simp))) HG1.out.size).mono ?_
    rintro e w2 ⟨gx, Ax, rfl, x2, hx2, ax2, h2⟩
    have HG2 := Lib.hid (only_trans HG1.out h2)
    have HX2 := Lib.hid x2
    have HAX := Lib.hid ax2
    have HHX : Hid (w.heap.size ≤ gx) := Lib.hid (by have := HG1.out.size; omega)
    clear x2 hx2 ax2 h2
    go_wp2_with fail
    refine (newq_calls w.heap.size _ _ A l (by omega) HLT.out w2 (HR.out.keep fun p hp => World.cell?_of_block (HG2.out.block _ hp (by simp))) HG2.out.size).mono ?_
    rintro e w3 ⟨gy, Ay, rfl, y3, hy3, ay3, h3⟩
    have HG3 := Lib.hid (only_trans HG2.out h3)
    have HX3 := Lib.hid (HX2.out.grown h3)
    have HY3 := Lib.hid y3
    have HXY : Hid (Ap gx Ax gy Ay) := Lib.hid ⟨by have := HX2.out.rr.lt; omega, fun ad e => by have := (HAX.out ad e).2; have := HX2.out.rr.lt; omega, fun ad e => by have := (ay3 ad e).1; have := HX2.out.rr.lt; omega⟩
    have HAY := Lib.hid ay3
    have HHY : Hid (w.heap.size ≤ gy) := Lib.hid (by have := HG2.out.size; omega)
    clear y3 hy3 ay3 h3 HX2
    go_wp2_with fail
    refine (newq_calls w.heap.size _ _ A l (by omega) HLT.out w3 (HR.out.keep fun p hp => World.cell?_of_block (HG3.out.block _ hp (by simp))) HG3.out.size).mono ?_
    rintro e w4 ⟨gz, Az, rfl, z4, hz4, az4, h4⟩
    have HT4 : Hid (∃ Ax Ay Az, Trio w w4 gx gy gz l 0 0 Ax Ay Az) := Lib.hid ⟨Ax, Ay, Az, only_trans HG3.out h4, HX3.out.grown h4, HY3.out.grown h4, z4, HXY.out,
      ⟨by have := HX3.out.rr.lt; omega, fun ad e => by have := (HAX.out ad e).2; have := HX3.out.rr.lt; omega, fun ad e => by have := (az4 ad e).1; have := HX3.out.rr.lt; omega⟩,
      ⟨by have := HY3.out.rr.lt; omega, fun ad e => by have := (HAY.out ad e).2; have := HY3.out.rr.lt; omega, fun ad e => by have := (az4 ad e).1; have := HY3.out.rr.lt; omega⟩,
      HHX.out, HHY.out, by have := HG3.out.size; omega⟩
    clear z4 hz4 az4 h4 HX3 HY3 HXY HAX HAY HHX HHY HG1 HG2 HG3 HR HLT HS
    go_wp2_with fail
    go_loopw [9] (fun i wr => ∃ k a c : Nat, k ≤ m ∧ k ≤ 60 ∧ i = .int .i64 k ∧ Hid (∃ Ax Ay Az, Trio w wr gx gy gz l a c Ax Ay Az)) (fun i _ => m - (iv i).toNat)
    case atStart => exact ⟨0, 0, 0, by omega, by omega, rfl, HT4⟩
    case round =>
      obtain ⟨k, a, c, hk, hk60, rfl, HT⟩ := hrel
      obtain ⟨Ax, Ay, Az, hT⟩ := HT.out
      have HT := Lib.hid hT
      clear hT
      by_cases hlt : k < m ∧ k < 60
      · obtain ⟨hlt, hlt60⟩ := hlt
        obtain ⟨b, off, u, rfl, hb, hu, hc0⟩ := HR2.out.at_ hlt
        obtain ⟨x, hx, hc⟩ : ∃ x : Nat, x < 256 ∧ w.cell? ⟨b, off + k, none⟩ = some (.int .u8 (x : Int)) := by
          rw [List.getElem?_map] at hu
          obtain ⟨x, hx, rfl⟩ := Option.map_eq_some_iff.1 hu
          exact ⟨x, HLT2.out x (List.mem_of_getElem? hx), hc0⟩
        have hcr := HT.out.grown.cell hc (by simp)
        have e15 := u8_and15 x hx
        obtain ⟨z, hz⟩ : ∃ z, x % 16 = z := ⟨_, rfl⟩
        have hz16 : z < 16 := by omega
        rw [hz] at e15
        have ez : IntKind.i64.wrap (z : Int) = (z : Int) := IntWalk.i64_in _ (by omega)
        have es : IntKind.i64.wrap (15 - (z : Int)) = 15 - (z : Int) := IntWalk.i64_in _ (by omega)
        clear hc0 hu hc hb hx hz
        obtain ⟨G, hG⟩ : ∃ G, got l a (inn z) = G := ⟨_, rfl⟩
        obtain ⟨v, ok, a'⟩ := G
        have HGG := Lib.hid hG
        clear hG
        go_wp2_with fail
        clear hcr
        refine (getq_calls gx Ax l a z wr HT.out.x).mono ?_
        rintro e w5 ⟨rfl, x5, h5⟩
        rw [HGG.out] at x5 ⊢
        have HX5 := Lib.hid x5
        have HY5 := Lib.hid (HT.out.y.other h5 HT.out.xy.swap)
        have HZ5 := Lib.hid (HT.out.z.other h5 HT.out.xz.swap)
        have HG5 := Lib.hid (grown_one HT.out.grown h5 HT.out.hx)
        clear x5 h5
        dsimp only
        go_wp2_with fail
        refine (getq_calls gy Ay l c (15 - z) w5 HY5.out).mono ?_
        rintro e w6 ⟨rfl, y6, h6⟩
        have HX6 := Lib.hid (HX5.out.other h6 HT.out.xy)
        have HY6 := Lib.hid y6
        have HZ6 := Lib.hid (HZ5.out.other h6 HT.out.yz.swap)
        have HG6 := Lib.hid (grown_one HG5.out h6 HT.out.hy)
        clear y6 h6 HX5 HY5 HZ5 HG5
        go_wp2_with fail
        refine (getq_calls gz Az l a z w6 HZ6.out).mono ?_
        rintro e w7 ⟨rfl, z7, h7⟩
        rw [HGG.out] at z7 ⊢
        have HX7 := Lib.hid (HX6.out.other h7 HT.out.xz)
        have HY7 := Lib.hid (HY6.out.other h7 HT.out.yz)
        have HZ7 := Lib.hid z7
        have HG7 := Lib.hid (grown_one HG6.out h7 HT.out.hz)
        clear z7 h7 HX6 HY6 HZ6 HG6
        dsimp only
        have hvv : ((v : Int) != v) = false := by simp
        have hoo : (ok != ok) = false := by cases ok <;> rfl
        go_wp2_with fail
        refine (rest_calls gx l a' w7 HX7.out.rr).mono ?_
        rintro e w8 ⟨rfl, q8, rfl⟩
        go_wp2_with fail
        refine (rest_calls gz l a' _ (HZ7.out.drewN q8).rr).mono ?_
        rintro e w9 ⟨rfl, q9, rfl⟩
        have hrr : (restB l a' != restB l a') = false := by cases restB l a' <;> rfl
        go_wp2_with fail
        go_roundw
        case rel => exact ⟨k + 1, _, _, by omega, by omega, by go_num, Lib.hid ⟨Ax, Ay, Az, grown_drawn HG7.out _, HX7.out.drewN _, HY7.out.drewN _, HZ7.out.drewN _, HT.out.xy, HT.out.xz, HT.out.yz, HT.out.hx, HT.out.hy, HT.out.hz⟩⟩
        case measure => simp [iv]; omega
      · go_wp2_with fail
        all_goals
          go_ret
          exact ⟨rfl, below_grown HT.out.grown⟩
end Go.Proofs.Ytldgldibkibknaa
