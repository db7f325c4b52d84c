/-
  The law MovesAcked, walked.
-/
import Derived.Test.YtehlehfljgphkaaOnce
namespace Go.Proofs.Ytehlehfljgphkaa
open Go.RowKit

/-- The command at place i, of one tick. -/
def cm (first : Int) (i : Nat) : Cmd := ⟨(first + i) % 65536, 0, 0, 0, 1⟩
/-- n of them, from place d on. -/
def tail (first : Int) (d n : Nat) : List Cmd := (List.range n).map fun i => cm first (d + i)
theorem tail_len (first : Int) (d n : Nat) : (tail first d n).length = n := by simp [tail]
theorem tail_at (first : Int) (d n i : Nat) (h : i < n) : (tail first d n)[i]? = some (cm first (d + i)) := by simp [tail, h]
theorem tail_snoc (first : Int) (k : Nat) : tail first 0 k ++ [cm first k] = tail first 0 (k + 1) := by simp [tail, List.range_succ]
theorem tail_drop (first : Int) (d n a : Nat) (h : a ≤ n) : (tail first d n).drop a = tail first (d + a) (n - a) := by
  refine List.ext_getElem? fun i => ?_
  rw [List.getElem?_drop]
  by_cases hi : a + i < n
  · rw [tail_at _ _ _ _ hi, tail_at _ _ _ _ (by omega)]
    congr 2; omega
  · rw [List.getElem?_eq_none (by rw [tail_len]; omega), List.getElem?_eq_none (by rw [tail_len]; omega)]
theorem newer_cm (first : Int) (i k : Nat) (hi : i ≤ 100) (hk : k ≤ 100) : newer (cm first i).seq ((first + k - 1) % 65536) = decide (k ≤ i) := by
  unfold newer dist cm
  dsimp only
  exact decide_eq_decide.2 (by omega)
theorem ackN_tail (first : Int) (d n k : Nat) (h : d + n ≤ 100) (hk : k ≤ 100) : ackN ((first + k - 1) % 65536) (tail first d n) = min n (k - d) := by
  rcases Nat.lt_or_ge (k - d) n with hlt | hge
  · rw [Nat.min_eq_right (by omega)]
    refine ackN_at (tail_at _ _ _ _ hlt) ?_ fun j c hj hc => ?_
    · rw [newer_cm _ _ _ (by omega) hk]; simp; omega
    · rw [tail_at _ _ _ _ (by omega)] at hc
      injection hc with hc
      subst hc
      rw [newer_cm _ _ _ (by omega) hk]; simp; omega
  · rw [Nat.min_eq_left hge]
    have := ackN_all (q := (first + k - 1) % 65536) (l := tail first d n) fun j c hc => by
      have hj : j < n := by
        have := (List.getElem?_eq_some_iff.1 hc).1
        rwa [tail_len] at this
      rw [tail_at _ _ _ _ hj] at hc
      injection hc with hc
      subst hc
      rw [newer_cm _ _ _ (by omega) hk]; simp; omega
    rw [this, tail_len]
/-- What lies there behind the first places were let go. -/
def Lies (w0 w : World) (g : Nat) (first : Int) (d n : Nat) : Prop := ∃ s last v, Own w0 w g (tail first d n) s last v
theorem i64_andFFFF (n : Int) : bits .and .i64 n 65535 = n % 65536 := by
  have h127 : (BitVec.ofInt 64 65535).toNat = 2 ^ 16 - 1 := by decide
  have key : (BitVec.ofInt 64 n &&& BitVec.ofInt 64 65535).toNat = (n % ((2 ^ 64 : Nat) : Int)).toNat % 2 ^ 16 := by
    rw [BitVec.toNat_and, BitVec.toNat_ofInt, h127, Nat.and_two_pow_sub_one_eq_mod]
  show IntKind.i64.wrap ((BitVec.ofInt 64 n &&& BitVec.ofInt 64 65535).toNat : Nat) = n % 65536
  rw [key, IntKind.wrap_i64]
  omega
/-- What is laid by the first loop. -/
def Laid (w0 w : World) (g : Nat) (first : Int) (k : Nat) : Prop := ∃ s last v, Own w0 w g (tail first 0 k) s last v ∧ (s = true → newer ((first + k) % 65536) last = true)

set_option maxRecDepth 100000 in
set_option maxHeartbeats 16000000 in
theorem acked (first cnt : Int) (A : Option Addr) (m cap : Nat) (l : List Nat) (w : World) (hm : m ≤ 9223372036854775807) (hlt8 : ∀ c ∈ l, c < 256)
    (hR : Rd w w.heap.size A m (l.map bv)) :
    Calls Try.prog 7 #[.int .u16 first, .int .i64 cnt, .slice A m cap] w fun e w' => e = .returned (.bool true) ∧ Below w.heap.size w w' := by
  have HR := Lib.hid hR
  have H8 := Lib.hid hlt8
  clear hR hlt8
  obtain ⟨count, hcount⟩ : ∃ count : Nat, (cnt % 65536) % 61 = (count : Int) := ⟨((cnt % 65536) % 61).toNat, by omega⟩
  have hc60 : count ≤ 60 := by omega
  have ec1 : bits .and .i64 cnt 65535 = cnt % 65536 := i64_andFFFF cnt
  obtain ⟨q, hq⟩ : ∃ q, cnt % 65536 = q := ⟨_, rfl⟩
  have hq0 : 0 ≤ q ∧ q < 65536 := by omega
  rw [hq] at ec1 hcount
  have ec2 : q.tmod 61 = (count : Int) := by rw [Int.tmod_eq_emod_of_nonneg hq0.1]; exact hcount
  clear hq
  go_enter Try.func7, Try.ntmps7
  go_wp2_with fail
  refine (shown_calls w).mono ?_
  rintro e w1 ⟨rfl, h1⟩
  have G1 := Lib.hid h1
  clear h1
  go_wp2_with fail
  refine (new_calls w1).mono ?_
  rintro e w2 ⟨rfl, rfl⟩
  have HO2 : Hid (Laid w (w1.alloc (.cells #[.slice none 0 0, .bool false, .int .u16 0] 64)) w1.heap.size first 0) := Lib.hid ⟨_, _, _, ⟨only_trans G1.out (World.grownBy_alloc _ _ _), G1.out.size, Mv.new w1⟩, by simp⟩
  obtain ⟨w2, hw2⟩ : ∃ w2, w1.alloc (.cells #[.slice none 0 0, .bool false, .int .u16 0] 64) = w2 := ⟨_, rfl⟩
  obtain ⟨g, hg⟩ : ∃ g, w1.heap.size = g := ⟨_, rfl⟩
  rw [hw2, hg] at HO2
  rw [hw2, hg]
  clear hw2 hg G1
  go_wp2_with fail
  clear ec1 ec2 hcount hq0
  go_loopw [9] (fun i wr => ∃ k : Nat, k ≤ count ∧ i = .int .i64 k ∧ Hid (Laid w wr g first k)) (fun i _ => count - (intOf i).toNat)
  case atStart => exact ⟨0, by omega, rfl, HO2⟩
  case round =>
    obtain ⟨k, hk, rfl, HL⟩ := hrel
    obtain ⟨s, last, v, hO, hnw⟩ := HL.out
    have HO := Lib.hid hO
    have HNW := Lib.hid hnw
    clear hO hnw HL
    by_cases hlt : k < count
    · obtain ⟨n0, hn0⟩ : ∃ n0, (first + k) % 65536 = n0 := ⟨_, rfl⟩
      have en1 : IntKind.u16.wrap (first + IntKind.u16.wrap (k : Int)) = n0 := by rw [IntKind.wrap_u16, IntKind.wrap_u16, ← hn0]; omega
      have en2 : IntKind.u16.wrap (first + (k : Int)) = n0 := by rw [IntKind.wrap_u16, ← hn0]
      rw [hn0] at HNW
      have HCM : Hid ((⟨n0, 0, 0, 0, 1⟩ : Cmd) = cm first k) := Lib.hid (by rw [← hn0]; rfl)
      have HN0 := Lib.hid hn0
      clear hn0
      go_wp2_with fail
      clear en1 en2
      refine (add_yes g _ s last v n0 0 0 0 1 wr HO.out.mv (by rw [tail_len]; omega) (by simp [rightB]) HNW.out).mono ?_
      rintro e w3 ⟨rfl, v3, h3, o3, f3⟩
      have HO3 : Hid (Laid w w3 g first (k + 1)) := Lib.hid ⟨_, _, _, (by have := HO.out.frm f3 h3; rw [HCM.out, tail_snoc] at this; exact this), fun _ => by
        have := HN0.out
        unfold newer dist
        exact decide_eq_true (by omega)⟩
      clear h3 o3 f3 HO
      go_wp2_with fail
      go_roundw
      case rel => exact ⟨k + 1, by omega, by go_num, HO3⟩
      case measure => simp [intOf]; omega
    · obtain rfl : k = count := by omega
      have HS : Hid (Lies w wr g first 0 k) := Lib.hid ⟨_, _, _, HO.out⟩
      clear HO HNW
      go_wp2_with fail
      obtain ⟨wo, rfl⟩ : ∃ wo : World, wo = wr := ⟨_, rfl⟩
      go_loopw [10, 11] (fun dv i wr => ∃ d i' : Nat, d ≤ k ∧ i' ≤ m ∧ i' ≤ 30 ∧ dv = .int .i64 d ∧ i = .int .i64 i' ∧ Hid (Lies w wr g first d (k - d))) (fun _ i _ => m - (intOf i).toNat)
      case atStart => exact ⟨0, 0, by omega, by omega, by omega, rfl, rfl, HS⟩
      case round =>
        obtain ⟨d, i', hd, hi, hi30, rfl, rfl, HL⟩ := hrel
        obtain ⟨s, last, v, hO⟩ := HL.out
        have HO := Lib.hid hO
        clear hO HL
        by_cases hlt2 : i' < m ∧ i' < 30
        · obtain ⟨hlt2, hlt30⟩ := hlt2
          obtain ⟨b, off, u, rfl, hb, hu, hc0⟩ := HR.out.at_ hlt2
          have hu' := hu
          obtain ⟨x, hx, hc⟩ : ∃ x : Nat, x < 256 ∧ w.cell? ⟨b, off + i', none⟩ = some (.int .u8 (x : Int)) := by
            rw [List.getElem?_map] at hu
            obtain ⟨x, hx, rfl⟩ := Option.map_eq_some_iff.1 hu
            exact ⟨x, H8.out x (List.mem_of_getElem? hx), hc0⟩
          have hcr := HO.out.grown.cell hc (by simp)
          clear hc0 hu hu' hc hb
          obtain ⟨j, hj⟩ : ∃ j, x % 61 = j := ⟨_, rfl⟩
          have ej : (x : Int) % 61 = (j : Int) := by omega
          have ej2 : (x : Int).tmod 61 = (j : Int) := by rw [Int.tmod_eq_emod_of_nonneg (by omega)]; exact ej
          have hj60 : j ≤ 60 := by omega
          obtain ⟨r, hr⟩ : ∃ r, (first + j) % 65536 = r := ⟨_, rfl⟩
          have er1 : IntKind.u16.wrap (first + IntKind.u16.wrap (j : Int)) = r := by rw [IntKind.wrap_u16, IntKind.wrap_u16, ← hr]; omega
          have er2 : IntKind.u16.wrap (first + (j : Int)) = r := by rw [IntKind.wrap_u16, ← hr]
          obtain ⟨q, hq⟩ : ∃ q, (first + j - 1) % 65536 = q := ⟨_, rfl⟩
          have eq1 : IntKind.u16.wrap (r - 1) = q := by rw [IntKind.wrap_u16, ← hq, ← hr]; omega
          have hak := ackN_tail first d (k - d) j (by omega) (by omega)
          rw [hq] at hak
          have hd2 : d ≤ max d (min j k) ∧ max d (min j k) ≤ k := by omega
          obtain ⟨d2, hdd⟩ : ∃ d2, max d (min j k) = d2 := ⟨_, rfl⟩
          have ha2 : min (k - d) (j - d) = d2 - d := by omega
          rw [ha2] at hak
          have hak2 := ackN_tail first d2 (k - d2) j (by omega) (by omega)
          rw [hq] at hak2
          have hz2 : min (k - d2) (j - d2) = 0 := by omega
          rw [hz2] at hak2
          have hdr := tail_drop first d (k - d) (d2 - d) (by omega)
          have hdr2 : tail first (d + (d2 - d)) (k - d - (d2 - d)) = tail first d2 (k - d2) := by congr 1 <;> omega
          rw [hdr2] at hdr
          have HER1 := Lib.hid er1
          have HER2 := Lib.hid er2
          have HEQ := Lib.hid eq1
          have HAK := Lib.hid hak
          have HAK2 := Lib.hid hak2
          have HDR := Lib.hid hdr
          rw [hdd] at hd2
          obtain ⟨a, ha⟩ : ∃ a, d2 - d = a := ⟨_, rfl⟩
          rw [ha] at HAK HDR
          have es1 : IntKind.i64.wrap ((d2 : Int) - d) = (a : Int) := by rw [IntWalk.i64_in _ (by omega)]; omega
          have es2 : (d2 : Int) - d = (a : Int) := by omega
          obtain ⟨n5, hn5⟩ : ∃ n5, k - d2 = n5 := ⟨_, rfl⟩
          have es3 : IntKind.i64.wrap ((k : Int) - d2) = (n5 : Int) := by rw [IntWalk.i64_in _ (by omega)]; omega
          have es4 : (k : Int) - d2 = (n5 : Int) := by omega
          rw [hn5] at HAK2 HDR
          have hj0 : 0 ≤ j := by omega
          have HDD : Hid (max d (min j k) = d2) := Lib.hid hdd
          have HN5 := Lib.hid hn5
          clear hak hak2 hdr hdr2 ha2 hz2 ha hn5 hq hr hj ej
          have hak3 : a ≤ 60 := by have := HAK.out; have h2 := ackN_le q (tail first d (k - d)); rw [tail_len] at h2; omega
          rcases (by omega : (j < k ∧ d < j ∧ j = d2) ∨ (k ≤ j ∧ d < k ∧ k = d2) ∨ (j < k ∧ j ≤ d ∧ d = d2) ∨ (k ≤ j ∧ k ≤ d ∧ d = d2)) with ⟨m1, m2, rfl⟩ | ⟨m1, m2, rfl⟩ | ⟨m1, m2, rfl⟩ | ⟨m1, m2, rfl⟩
          · clear hdd
            go_wp2_with fail
            clear er1 er2 eq1 ej2 hcr
            refine (acked_calls g _ s last q v (by rw [tail_len]; omega) wr HO.out.mv).mono ?_
            rintro e w5 ⟨rfl, v5, h5, o5, f5⟩
            have h5' := h5
            rw [HAK.out, HDR.out] at h5'
            rw [HAK.out]
            have HO5 := Lib.hid (HO.out.frm f5 h5')
            clear h5 h5' o5 f5 HO
            go_wp2_with fail
            all_goals
              clear es1 es2
              refine (saved_calls g _ s last v5 (by rw [tail_len]; omega) w5 HO5.out.mv).mono ?_
              rintro e w6 ⟨A6, q6, rfl, _, h6⟩
              rw [tail_len]
              have HO6 := Lib.hid (HO5.out.grown_ h6)
              clear h6 HO5
              have er1 : IntKind.u16.wrap (first + IntKind.u16.wrap (j : Int)) = r := HER1.out
              have er2 : IntKind.u16.wrap (first + (j : Int)) = r := HER2.out
              have eq1 : IntKind.u16.wrap (r - 1) = q := HEQ.out
              go_wp2_with fail
              clear er1 er2 eq1
              refine (acked_calls g _ s last q v5 (by rw [tail_len]; omega) w6 HO6.out.mv).mono ?_
              rintro e w7 ⟨rfl, v7, h7, o7, f7⟩
              have h7' := h7
              rw [HAK2.out, List.drop_zero] at h7'
              rw [HAK2.out]
              have HO7 : Hid (Lies w w7 g first j (k - j)) := Lib.hid (by rw [HN5.out]; exact ⟨_, _, _, HO6.out.frm f7 h7'⟩)
              clear h7 h7' o7 f7 HO6
              go_wp2_with fail
              go_roundw
              case rel => exact ⟨j, i' + 1, by omega, by omega, by omega, (by first | rfl | (congr 1; omega)), by go_num, HO7⟩
              case measure => simp [intOf]; omega
          · obtain rfl : n5 = 0 := by omega
            clear es3 es4
            clear hdd
            go_wp2_with fail
            clear er1 er2 eq1 ej2 hcr
            refine (acked_calls g _ s last q v (by rw [tail_len]; omega) wr HO.out.mv).mono ?_
            rintro e w5 ⟨rfl, v5, h5, o5, f5⟩
            have h5' := h5
            rw [HAK.out, HDR.out] at h5'
            rw [HAK.out]
            have HO5 := Lib.hid (HO.out.frm f5 h5')
            clear h5 h5' o5 f5 HO
            go_wp2_with fail
            all_goals
              clear es1 es2
              refine (saved_calls g _ s last v5 (by rw [tail_len]; omega) w5 HO5.out.mv).mono ?_
              rintro e w6 ⟨A6, q6, rfl, _, h6⟩
              rw [tail_len]
              have HO6 := Lib.hid (HO5.out.grown_ h6)
              clear h6 HO5
              have er1 : IntKind.u16.wrap (first + IntKind.u16.wrap (j : Int)) = r := HER1.out
              have er2 : IntKind.u16.wrap (first + (j : Int)) = r := HER2.out
              have eq1 : IntKind.u16.wrap (r - 1) = q := HEQ.out
              go_wp2_with fail
              clear er1 er2 eq1
              refine (acked_calls g _ s last q v5 (by rw [tail_len]; omega) w6 HO6.out.mv).mono ?_
              rintro e w7 ⟨rfl, v7, h7, o7, f7⟩
              have h7' := h7
              rw [HAK2.out, List.drop_zero] at h7'
              rw [HAK2.out]
              have HO7 : Hid (Lies w w7 g first k (k - k)) := Lib.hid (by rw [HN5.out]; exact ⟨_, _, _, HO6.out.frm f7 h7'⟩)
              clear h7 h7' o7 f7 HO6
              go_wp2_with fail
              go_roundw
              case rel => exact ⟨k, i' + 1, by omega, by omega, by omega, (by first | rfl | (congr 1; omega)), by go_num, HO7⟩
              case measure => simp [intOf]; omega
          · obtain rfl : a = 0 := by omega
            clear es1 es2
            clear hdd
            go_wp2_with fail
            clear er1 er2 eq1 ej2 hcr
            refine (acked_calls g _ s last q v (by rw [tail_len]; omega) wr HO.out.mv).mono ?_
            rintro e w5 ⟨rfl, v5, h5, o5, f5⟩
            have h5' := h5
            rw [HAK.out, HDR.out] at h5'
            rw [HAK.out]
            have HO5 := Lib.hid (HO.out.frm f5 h5')
            clear h5 h5' o5 f5 HO
            go_wp2_with fail
            all_goals
              refine (saved_calls g _ s last v5 (by rw [tail_len]; omega) w5 HO5.out.mv).mono ?_
              rintro e w6 ⟨A6, q6, rfl, _, h6⟩
              rw [tail_len]
              have HO6 := Lib.hid (HO5.out.grown_ h6)
              clear h6 HO5
              have er1 : IntKind.u16.wrap (first + IntKind.u16.wrap (j : Int)) = r := HER1.out
              have er2 : IntKind.u16.wrap (first + (j : Int)) = r := HER2.out
              have eq1 : IntKind.u16.wrap (r - 1) = q := HEQ.out
              go_wp2_with fail
              clear er1 er2 eq1
              refine (acked_calls g _ s last q v5 (by rw [tail_len]; omega) w6 HO6.out.mv).mono ?_
              rintro e w7 ⟨rfl, v7, h7, o7, f7⟩
              have h7' := h7
              rw [HAK2.out, List.drop_zero] at h7'
              rw [HAK2.out]
              have HO7 : Hid (Lies w w7 g first d (k - d)) := Lib.hid (by rw [HN5.out]; exact ⟨_, _, _, HO6.out.frm f7 h7'⟩)
              clear h7 h7' o7 f7 HO6
              go_wp2_with fail
              go_roundw
              case rel => exact ⟨d, i' + 1, by omega, by omega, by omega, (by first | rfl | (congr 1; omega)), by go_num, HO7⟩
              case measure => simp [intOf]; omega
          · obtain rfl : a = 0 := by omega
            clear es1 es2
            obtain rfl : k = d := by omega
            obtain rfl : n5 = 0 := by omega
            clear es3 es4
            clear hdd
            go_wp2_with fail
            clear er1 er2 eq1 ej2 hcr
            refine (acked_calls g _ s last q v (by rw [tail_len]; omega) wr HO.out.mv).mono ?_
            rintro e w5 ⟨rfl, v5, h5, o5, f5⟩
            have h5' := h5
            rw [HAK.out, HDR.out] at h5'
            rw [HAK.out]
            have HO5 := Lib.hid (HO.out.frm f5 h5')
            clear h5 h5' o5 f5 HO
            go_wp2_with fail
            all_goals
              refine (saved_calls g _ s last v5 (by rw [tail_len]; omega) w5 HO5.out.mv).mono ?_
              rintro e w6 ⟨A6, q6, rfl, _, h6⟩
              rw [tail_len]
              have HO6 := Lib.hid (HO5.out.grown_ h6)
              clear h6 HO5
              have er1 : IntKind.u16.wrap (first + IntKind.u16.wrap (j : Int)) = r := HER1.out
              have er2 : IntKind.u16.wrap (first + (j : Int)) = r := HER2.out
              have eq1 : IntKind.u16.wrap (r - 1) = q := HEQ.out
              go_wp2_with fail
              clear er1 er2 eq1
              refine (acked_calls g _ s last q v5 (by rw [tail_len]; omega) w6 HO6.out.mv).mono ?_
              rintro e w7 ⟨rfl, v7, h7, o7, f7⟩
              have h7' := h7
              rw [HAK2.out, List.drop_zero] at h7'
              rw [HAK2.out]
              have HO7 : Hid (Lies w w7 g first k (k - k)) := Lib.hid (by rw [HN5.out]; exact ⟨_, _, _, HO6.out.frm f7 h7'⟩)
              clear h7 h7' o7 f7 HO6
              go_wp2_with fail
              go_roundw
              case rel => exact ⟨k, i' + 1, by omega, by omega, by omega, (by first | rfl | (congr 1; omega)), by go_num, HO7⟩
              case measure => simp [intOf]; omega
        · obtain ⟨n5, hn5⟩ : ∃ n5, k - d = n5 := ⟨_, rfl⟩
          rw [hn5] at HO
          have HN5 := Lib.hid hn5
          have hn5b : d + n5 ≤ 60 := by omega
          clear hn5
          rcases (show ¬ i' < m ∨ (i' < m ∧ i' = 30) by omega) with h | ⟨h, rfl⟩
          all_goals
            clear hlt2
            go_wp2_with fail
            refine (saved_calls g _ s last v (by rw [tail_len]; omega) wr HO.out.mv).mono ?_
            rintro e w6 ⟨A6, q6, rfl, h6o, h6⟩
            have HO6 := Lib.hid (HO.out.grown_ h6)
            have HRW := Lib.hid (own_rg Cmd.cl_len (by decide) h6o)
            rw [tail_len] at HRW
            rw [tail_len]
            clear h6 h6o
            go_wp2_with fail
            go_loopw [16] (fun i wr => ∃ z : Nat, z ≤ n5 ∧ i = .int .i64 z ∧ Hid (wr = w6)) (fun i _ => n5 - (intOf i).toNat)
            case atStart => exact ⟨0, by omega, rfl, Lib.hid rfl⟩
            case round =>
              obtain ⟨z, hz, rfl, HW⟩ := hrel
              obtain rfl := HW.out
              by_cases hlt3 : z < n5
              · obtain ⟨b, off, c, rfl, hb, hx, hr⟩ := HRW.out.at_ Cmd.cl_len hlt3
                rw [tail_at _ _ _ _ hlt3] at hx
                injection hx with hx
                subst hx
                have c0 := hr 0 _ rfl
                obtain ⟨p, hp⟩ : ∃ p, d + z = p := ⟨_, rfl⟩
                obtain ⟨n0, hn0⟩ : ∃ n0, (first + (d + z : Nat)) % 65536 = n0 := ⟨_, rfl⟩
                have ec : (cm first (d + z)).seq = n0 := hn0
                rw [ec] at c0
                rw [hp] at hn0
                have es : IntKind.i64.wrap ((d : Int) + z) = (p : Int) := by rw [IntWalk.i64_in _ (by omega)]; omega
                have es2 : (d : Int) + z = (p : Int) := by omega
                have en1 : IntKind.u16.wrap (first + IntKind.u16.wrap (p : Int)) = n0 := by rw [IntKind.wrap_u16, IntKind.wrap_u16, ← hn0]; omega
                have en2 : IntKind.u16.wrap (first + (p : Int)) = n0 := by rw [IntKind.wrap_u16, ← hn0]
                have c0' : wr.cell? ⟨b, off + z * 5, none⟩ = some (.int .u16 n0) := c0
                clear hr hn0 ec hp hb c0
                go_wp2_with fail
                go_roundw
                case rel => exact ⟨z + 1, by omega, by go_num, Lib.hid (by trivial)⟩
                case measure => simp [intOf]; omega
              · go_wp2_with fail
                go_ret
                exact ⟨rfl, below_grown HO6.out.grown⟩
end Go.Proofs.Ytehlehfljgphkaa
