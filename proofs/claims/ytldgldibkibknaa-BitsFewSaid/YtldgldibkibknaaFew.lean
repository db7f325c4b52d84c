import Derived.Test.YtldgldibkibknaaFewN
namespace Go.Proofs.Ytldgldibkibknaa
open Go.RowKit

theorem pk_small (bs : List Bool) (N : Nat) : ∀ x ∈ pk bs N, x < 256 := fun x hx => by
  obtain ⟨i, _, rfl⟩ := List.mem_map.1 hx
  exact by8_lt bs i

theorem half_i64 (H : Nat) (h : H ≤ 4611686018427387904) : IntKind.i64.wrap (H : Int) = (H : Int) ∧ IntKind.i64.wrap (-(H : Int)) = -(H : Int) :=
  ⟨IntWalk.i64_in _ (by omega), IntWalk.i64_in _ (by omega)⟩
theorem whole_u64 (P H : Nat) (h : H ≤ 4611686018427387904) (hp : 0 < H) (e : P = 2 * H) : IntKind.u64.wrap (P : Int) = (P : Int) ∧ IntKind.u64.wrap ((P : Int) - 1) = ((P - 1 : Nat) : Int) :=
  ⟨by rw [IntKind.wrap_u64]; omega, by rw [IntKind.wrap_u64]; omega⟩

set_option maxRecDepth 100000 in
set_option maxHeartbeats 4000000 in
/-- THE LAW: a number that has no room loses its highest bits; one with a sign its sign. -/
theorem few (y size : Int) (w : World) (hy : -9223372036854775808 ≤ y ∧ y ≤ 9223372036854775807) :
    Calls Try.prog 10 #[.int .i64 y, .int .i64 size] w fun e w' => e = .returned (.bool true) ∧ Below w.heap.size w w' := by
  have HS := Lib.hid (shown_calls w)
  have ea : bits .and .i64 size 65535 = (((size % 65536).toNat : Nat) : Int) := by rw [i64_andFFFF]; omega
  obtain ⟨m, hm⟩ : ∃ m, (size % 65536).toNat = m := ⟨_, rfl⟩
  rw [hm] at ea
  clear hm
  obtain ⟨q, hq⟩ : ∃ q, m % 63 = q := ⟨_, rfl⟩
  have er : (m : Int) % 63 = (q : Int) := by omega
  have er2 : (m : Int).tmod 63 = (q : Int) := by rw [Int.tmod_eq_emod_of_nonneg (by omega)]; exact er
  obtain ⟨k, hk⟩ : ∃ k, q = k := ⟨_, rfl⟩
  obtain ⟨z, hz⟩ : ∃ z, 1 + q = z := ⟨_, rfl⟩
  have hz1 : 1 ≤ z := by omega
  have hz63 : z ≤ 63 := by omega
  have ez : IntKind.i64.wrap (1 + (q : Int)) = (z : Int) := by rw [IntWalk.i64_in _ (by omega)]; omega
  have ezk : IntKind.i64.wrap ((z : Int) - 1) = (q : Int) := by rw [IntWalk.i64_in _ (by omega)]; omega
  have eku : IntKind.u64.wrap (q : Int) = (q : Int) := by rw [IntKind.wrap_u64]; omega
  have ezu : IntKind.u64.wrap (z : Int) = (z : Int) := by rw [IntKind.wrap_u64]; omega
  obtain ⟨U, hU⟩ : ∃ U, uw y = U := ⟨_, rfl⟩
  obtain ⟨r, hr⟩ : ∃ r, uw y % 2 ^ z = r := ⟨_, rfl⟩
  obtain ⟨s, hs⟩ : ∃ s, sgn r z = s := ⟨_, rfl⟩
  obtain ⟨H, hH⟩ : ∃ H, 2 ^ (z - 1) = H := ⟨_, rfl⟩
  obtain ⟨p1, p2, p3, p4, p5, p6⟩ := few_plain y z hz1 hz63 hy r hr s hs H hH
  obtain ⟨P, hP⟩ : ∃ P, 2 ^ z = P := ⟨_, rfl⟩
  have hP2 : P = 2 * H := by rw [← hP, ← hH, ← Nat.pow_succ']; congr 1; omega
  obtain ⟨V, hV⟩ : ∃ V, uw s = V := ⟨_, rfl⟩
  have eU : IntKind.u64.wrap y = (U : Int) := by rw [← hU]; exact uw_wrap y
  have eV : IntKind.u64.wrap s = (V : Int) := by rw [← hV]; exact uw_wrap s
  have hqz : q = z - 1 := by omega
  have eH0 : ((2 : Int) ^ q) = (H : Int) := by rw [hqz, ← hH]; simp
  have eH1 : IntKind.i64.wrap (H : Int) = (H : Int) := (half_i64 H p5).1
  have eH2 : wrap64 (H : Int) = (H : Int) := by rw [← IntWalk.i64_left]; exact eH1
  have eHm : ((2 : Int) ^ min q 64) = (H : Int) := by rw [Nat.min_eq_left (by omega)]; exact eH0
  have eN1 : IntKind.i64.wrap (-(H : Int)) = -(H : Int) := (half_i64 H p5).2
  have eN2 : wrap64 (-(H : Int)) = -(H : Int) := by rw [← IntWalk.i64_left]; exact eN1
  have eP0 : ((2 : Int) ^ z) = (P : Int) := by rw [← hP]; simp
  have ePm : ((2 : Int) ^ min z 64) = (P : Int) := by rw [Nat.min_eq_left (by omega)]; exact eP0
  have hHp : 0 < H := by rw [← hH]; exact Nat.two_pow_pos _
  have eP1 : IntKind.u64.wrap (P : Int) = (P : Int) := (whole_u64 P H p5 hHp hP2).1
  obtain ⟨Q, hQ⟩ : ∃ Q, P - 1 = Q := ⟨_, rfl⟩
  have eQ : IntKind.u64.wrap ((P : Int) - 1) = (Q : Int) := by rw [← hQ]; exact (whole_u64 P H p5 hHp hP2).2
  have eA : bits .and .u64 (U : Int) (Q : Int) = (r : Int) := by
    have := and_low U z (by rw [← hU]; exact uw_lt y) hz63
    rw [hP, hQ, ← hP, ← hU, hr] at this; rw [← hU]; exact this
  have eB : bits .and .u64 (V : Int) (Q : Int) = (r : Int) := by
    have := and_low V z (by rw [← hV]; exact uw_lt s) hz63
    rw [hP, hQ, ← hP, ← hV, p4] at this; rw [← hV]; exact this
  obtain ⟨b1, hb1⟩ : ∃ b1, decide (-(H : Int) ≤ y) = b1 := ⟨_, rfl⟩
  obtain ⟨b2, hb2⟩ : ∃ b2, decide (y < (H : Int)) = b2 := ⟨_, rfl⟩
  have hb3 : (s == y) = (b1 && b2) := by
    rw [← hb1, ← hb2, ← Bool.decide_and, Bool.eq_iff_iff, beq_iff_eq, decide_eq_true_eq]; exact p3
  have hb4 : decide (-(H : Int) ≤ s) = true := decide_eq_true p1
  have hb5 : decide (s < (H : Int)) = true := decide_eq_true p2
  have I1 : Hid (inn (z : Int) = z) := Lib.hid (inn_nat z (by omega))
  have HZ := Lib.hid hz63
  have HU := Lib.hid hU
  have HR := Lib.hid hr
  have HSS := Lib.hid hs
  clear hHp hy hq hk hz hz1 hz63 hU hr hs hH p1 p2 p3 p4 p5 p6 hP hP2 hV hqz hQ
  go_enter Try.func10, Try.ntmps10
  go_wp2_with (go_at_call 11; refine HS.out.mono ?_; rintro e w1 ⟨rfl, h1⟩; have G1 := Lib.hid h1; clear h1)
  have hUlt : Hid (U < 18446744073709551616) := Lib.hid (by rw [← HU.out]; exact uw_lt y)
  refine (put_int w1.heap.size U U z rfl hUlt.out [] (by decide) _ _ (wr_new w1)).mono ?_
  rintro e w2 ⟨rfl, v2, p1, p2, p3⟩
  rw [I1.out] at p1
  have G2 := Lib.hid (p3.over (only_trans G1.out (World.grownBy_alloc w1 _ none)) G1.out.size (fun j e => by cases e))
  have W2 := Lib.hid p1
  clear p1 p2 p3
  go_wp2_with fail
  refine (signW_calls w1.heap.size y z ([] ++ hb U z) (by have := HZ.out; simp [hb_len]; omega) v2 w2 W2.out).mono ?_
  rintro e w3 ⟨rfl, v3, p1, p2, p3⟩
  rw [I1.out, HU.out] at p1
  have G3 := Lib.hid (p3.over G2.out G1.out.size (fun j e => by have := (W2.out.row_lt j e).2; have := G1.out.size; omega))
  obtain ⟨L, hL⟩ : ∃ L, [] ++ hb U z ++ hb U z = L := ⟨_, rfl⟩
  rw [hL] at p1
  have hlen : L.length = 2 * z := by rw [← hL]; simp [hb_len]; omega
  obtain ⟨n, hn⟩ : ∃ n, (L.length + 7) / 8 = n := ⟨_, rfl⟩
  have HB := bytes_calls w1.heap.size L (by have := HZ.out; omega) v3 w3 p1
  rw [hn] at HB
  have HB := Lib.hid HB
  have HL := Lib.hid hL
  have HLen := Lib.hid hlen
  have HN := Lib.hid hn
  clear p1 p2 p3 hL hlen hn
  go_wp2_with (go_at_call 13; refine HB.out.mono ?_; rintro e w4 ⟨A, c, rfl, q1, q2⟩; have R4 := Lib.hid (rd_of_own q1); have G4 := Lib.hid (only_trans G3.out q2); clear q1 q2)
  refine (newReader_calls w4.heap.size n c A (pk L n) (by have := HZ.out; have := HLen.out; have := HN.out; omega) (pk_small L n) w4 R4.out (Nat.le_refl _)).mono ?_
  rintro e w5 ⟨g, rfl, q1, q2, q3⟩
  have G5 := Lib.hid (only_trans G4.out q3)
  have g1 : got (pk L n) 0 z = (r, true, z) := by
    unfold got
    rw [if_pos (by rw [pk_len]; have := HLen.out; have := HN.out; omega), num_pk L n 0 z (by have := HLen.out; have := HN.out; omega), ← HL.out]
    have := bnum_all [] (hb U z) U z
    simp only [List.length_nil] at this
    rw [this, ← HU.out, HR.out, Nat.zero_add]
  have g2 : got (pk L n) z z = (r, true, z + z) := by
    unfold got
    rw [if_pos (by rw [pk_len]; have := HLen.out; have := HN.out; omega), num_pk L n z z (by have := HLen.out; have := HN.out; omega), ← HL.out]
    have := bnum_all ([] ++ hb U z) [] U z
    simp only [List.append_nil, List.nil_append, hb_len] at this
    rw [List.nil_append, this, ← HU.out, HR.out]
  have X1 := get_calls g (pk L n) 0 z w5 q1
  rw [I1.out, g1] at X1
  have X2 : Hid (∀ w6, Rr w6 g (pk L n) z → Calls Try.prog 22 #[.pointer (some ⟨g, 0, none⟩), .int .i64 z] w6 fun e w' => e = .returned (.tuple #[.int .i64 s, .bool true]) ∧ w6.grownBy w' (some g)) := Lib.hid (fun w6 h6 => by
    have := signR_calls g (pk L n) z z w6 h6
    rw [I1.out, g2] at this
    simp only [HSS.out] at this
    exact this.mono fun _ _ h => ⟨h.1, h.2.2⟩)
  have HG : Hid (w.heap.size ≤ g) := Lib.hid (Nat.le_trans G4.out.size q2)
  have X1 := Lib.hid X1
  clear g1 g2 q1 q2 q3
  cases b1 <;> cases b2 <;> simp only [Bool.and_true, Bool.and_false] at hb3 <;>
    (go_wp2_with (first
      | (go_at_call 17; refine X1.out.mono ?_; rintro e w6 ⟨rfl, r6, q6⟩; have R6 := Lib.hid r6; have G6 := Lib.hid (grown_over G5.out q6 HG.out); clear r6 q6)
      | (go_at_call 22; refine (X2.out _ R6.out).mono ?_; rintro e w7 ⟨rfl, q7⟩; have G7 := Lib.hid (grown_over G6.out q7 HG.out); clear q7))
     go_ret
     exact ⟨rfl, below_grown G7.out⟩)
end Go.Proofs.Ytldgldibkibknaa
