/-
  slices.SortStableFunc at 'seen': rotating.
-/
import Derived.Test.YtbilegkffooioaaGreatDoorM04
import Derived.Deep.RegionHeld3
import Derived.Shelf.Slices.In.SortNone
namespace Go.Proofs.YtbilegkffooioaaGreatDoor
open Go.Shelf Go.RowKit Go.Lib Go.Sort
variable {α : Type} [Inhabited α]

set_option maxHeartbeats 1000000 in
set_option maxRecDepth 1000000 in
theorem rotate_calls (enc : α → List Value) (g : Nat) (cb : Array Value) (blk off cap a m b : Nat) (d0 d : Array α) (w0 w : World)
    (R : RowK enc 4 w0 blk off d0) (hs : d0.size = d.size) (S : SWK enc 4 w0 blk off d w) (h1 : a < m) (h2 : m < b) (h5 : b ≤ d.size) (hsz : d.size < 4611686018427387904) :
    Calls Tryz.prog 228 #[.slice (some ⟨blk, off, none⟩) d.size cap, .int .i64 a, .int .i64 m, .int .i64 b, .func (.func g) #[] cb] w fun e w' => e = .returned (.tuple #[]) ∧ ∃ d', PermIn a b d d' ∧ SWK enc 4 w0 blk off d' w' := by
  have mixed : Tryz.prog.follows .mixedOrders = true := by kernel_rfl
  have S0 : Aside (SWK enc 4 w0 blk off d w) := S
  clear S
  have SW : Hid (∀ (p q n : Nat) (dk : Array α) (wr : World), dk.size = d.size → SWK enc 4 w0 blk off dk wr → a ≤ p → a ≤ q → p + n ≤ b → q + n ≤ b →
      Calls Tryz.prog 267 #[.slice (some ⟨blk, off, none⟩) d.size cap, .int .i64 p, .int .i64 q, .int .i64 n, .func (.func g) #[] cb] wr fun e w' => e = .returned (.tuple #[]) ∧ ∃ d', PermIn a b dk d' ∧ SWK enc 4 w0 blk off d' w') :=
    fun p q n dk wr hd hS q1 q2 q3 q4 => by
      rw [← hd]
      exact swapRange_calls enc g cb blk off cap a b p q n d0 dk w0 wr R (hs.trans hd.symm) hS q1 q2 q3 q4 (by omega) (by omega)
  go_enter Tryz.func228, Tryz.ntmps228
  go_wp2
  go_loopg [10, 11] (b - a) (fun kx s10 s11 wr => ∃ (i j : Nat) (dk : Array α), s10 = .int .i64 i ∧ s11 = .int .i64 j ∧ 0 < i ∧ 0 < j ∧ i ≤ m - a ∧ j ≤ b - m ∧ i + j ≤ kx ∧ Aside (PermIn a b d dk) ∧ Aside (SWK enc 4 w0 blk off dk wr))
  case atStart => exact ⟨m - a, b - m, d, by go_num, by go_num, by omega, by omega, by omega, by omega, by omega, permIn_refl d a b, S0⟩
  case round =>
    clear S0
    obtain ⟨i, j, dk, rfl, rfl, hi, hj, him, hjm, hkx, hP, S1⟩ := hrel
    have hds : dk.size = d.size := hP.out.1
    obtain ⟨p, hp⟩ : ∃ p, m - i = p := ⟨_, rfl⟩
    have w1 : IntKind.i64.wrap ((m : Int) - (i : Int)) = (p : Int) := by rw [IntKind.wrap_i64]; omega
    rcases Nat.lt_trichotomy i j with hlt | heq | hgt
    · have n1 : ¬ ((i : Int) = (j : Int)) := by omega
      have n2 : ¬ ((j : Int) < (i : Int)) := by omega
      obtain ⟨q, hq⟩ : ∃ q, m + j - i = q := ⟨_, rfl⟩
      have hqz : ((m : Int) + (j : Int) - (i : Int)) = (q : Int) := by omega
      have HQ := Lib.hid hqz
      clear hqz
      go_wp2_with fail
      rw [HQ.out]
      refine (SW.out p q i dk wr hds S1.out (by omega) (by omega) (by omega) (by omega)).mono ?_
      rintro e w2 ⟨rfl, d2, hP2, S2⟩
      have HP2 := Lib.hid hP2
      have HS2 := Lib.hid S2
      clear hP2 S2
      go_wp2
      go_roundg (i + (j - i))
      case measure => omega
      case rel => exact ⟨i, j - i, d2, rfl, by go_num, hi, by omega, him, by omega, by omega, permIn_trans _ _ _ _ _ hP.out HP2.out, HS2.out⟩
    · subst heq
      have HP := Lib.hid hp
      go_wp2_with fail
      refine (SW.out p m i dk wr hds S1.out (by omega) (by omega) (by omega) (by omega)).mono ?_
      rintro e w2 ⟨rfl, d2, hP2, S2⟩
      have HP2 := Lib.hid hP2
      have HS2 := Lib.hid S2
      clear hP2 S2
      go_wp2
      go_end0
      exact ⟨rfl, d2, permIn_trans _ _ _ _ _ hP.out HP2.out, HS2.out⟩
    · have n1 : ¬ ((i : Int) = (j : Int)) := by omega
      have n2 : ((j : Int) < (i : Int)) := by omega
      go_wp2_with fail
      refine (SW.out p m j dk wr hds S1.out (by omega) (by omega) (by omega) (by omega)).mono ?_
      rintro e w2 ⟨rfl, d2, hP2, S2⟩
      have HP2 := Lib.hid hP2
      have HS2 := Lib.hid S2
      clear hP2 S2
      go_wp2
      go_roundg (i - j + j)
      case measure => omega
      case rel => exact ⟨i - j, j, d2, by go_num, rfl, by omega, hj, by omega, hjm, by omega, permIn_trans _ _ _ _ _ hP.out HP2.out, HS2.out⟩
end Go.Proofs.YtbilegkffooioaaGreatDoor
/-
  slices.SortStableFunc at 'seen': merging in place.
-/
namespace Go.Proofs.YtbilegkffooioaaGreatDoor
open Go.Shelf Go.RowKit Go.Lib Go.Sort
variable {α : Type} [Inhabited α]

/-- Nothing of a piece is below its first. -/
def Least (cf : α → α → Int) (a b : Nat) (d : Array α) : Prop := ∀ i, a ≤ i → i < b → ¬ cf d[i]! d[a]! < 0

set_option maxHeartbeats 4000000 in
set_option maxRecDepth 1000000 in
/-- One ahead: it is put where it belongs. -/
theorem symMerge_one (enc : α → List Value) (cf : α → α → Int) (g : Nat) (cb : Array Value) (blk off cap a m b : Nat) (d0 d : Array α) (w0 w : World)
    (eg : ∀ args w, (callFunc g args).run Tryz.prog w = .ok (.enter g args) w) (HC : Aside (CmpLays Tryz.prog g cb enc 4 cf blk off d0.size w0))
    (R : RowK enc 4 w0 blk off d0) (hs : d0.size = d.size) (S : SWK enc 4 w0 blk off d w) (h0 : m = a + 1) (h2 : m < b) (h5 : b ≤ d.size) (hsz : d.size < 4611686018427387904) :
    Calls Tryz.prog 165 #[.slice (some ⟨blk, off, none⟩) d.size cap, .int .i64 a, .int .i64 m, .int .i64 b, .func (.func g) #[] cb] w fun e w' => e = .returned (.tuple #[]) ∧ ∃ d', PermIn a b d d' ∧ SWK enc 4 w0 blk off d' w' ∧ (Least cf a b d → d'[a]! = d[a]!) := by
  have mixed : Tryz.prog.follows .mixedOrders = true := by kernel_rfl
  obtain ⟨k, hk4⟩ : ∃ k, k = 4 := ⟨_, rfl⟩
  rw [← hk4] at R S HC ⊢
  have zE : ∀ w, (Go.sizeOf 97).run Tryz.prog w = .ok k w := by rw [hk4]; exact Tryz.sizeOf97
  have HK4 : Hid (k = 4) := hk4
  clear hk4
  have S0 : Aside (SWK enc k w0 blk off d w) := S
  have H0 : Hid (m = a + 1) := h0
  have c0 : (m : Int) - (a : Int) = 1 := by omega
  clear S h0
  go_enter Tryz.func165, Tryz.ntmps165
  go_wp2
  go_loopg [10, 11, 12] (b - m) (fun kx s10 s11 s12 wr => ∃ (i j : Nat), s10 = .int .i64 i ∧ s11 = .int .i64 j ∧ m ≤ i ∧ i ≤ j ∧ j ≤ b ∧ j - i ≤ kx ∧ Aside (Least cf a b d → i = m) ∧ Aside (SWK enc k w0 blk off d wr))
  case atStart => exact ⟨m, b, rfl, rfl, by omega, by omega, by omega, by omega, fun _ => rfl, S0⟩
  case round =>
    clear S0
    have hma := H0.out
    obtain ⟨i, j, rfl, rfl, hmi, hij, hjb, hkx, hL, S1⟩ := hrel
    by_cases hlt : i < j
    · have hltz : (i : Int) < (j : Int) := by omega
      obtain ⟨h, hh⟩ : ∃ h, (i + j) / 2 = h := ⟨_, rfl⟩
      have hhz : ((i : Int) + (j : Int)) / 2 = (h : Int) := by omega
      have hih : i ≤ h := by omega
      have hhj : h < j := by omega
      clear hh hma
      by_cases hv : cf d[h]! d[a]! < 0
      · have ea50 : (((h) : Nat) : Int).toNat = h := by omega
        have pa50 : (0 : Int) ≤ ((h : Nat) : Int) := by omega
        have ba50 : ((h : Nat) : Int) < (d.size : Int) := by omega
        have ra50 : IntKind.i64.wrap ((h : Nat) : Int) = ((h : Nat) : Int) := by rw [IntKind.wrap_i64]; omega
        have ec50 : (((a) : Nat) : Int).toNat = a := by omega
        have pc50 : (0 : Int) ≤ ((a : Nat) : Int) := by omega
        have bc50 : ((a : Nat) : Int) < (d.size : Int) := by omega
        have rc50 : IntKind.i64.wrap ((a : Nat) : Int) = ((a : Nat) : Int) := by rw [IntKind.wrap_i64]; omega
        obtain ⟨x50, hx50⟩ : ∃ x, x = d[h]! := ⟨_, rfl⟩
        obtain ⟨y50, hy50⟩ : ∃ x, x = d[a]! := ⟨_, rfl⟩
        have l50a := S1.out.ld R (by omega) Tryz.prog (h) (by omega)
        have l50b := S1.out.ld R (by omega) Tryz.prog (a) (by omega)
        rw [← hx50] at l50a
        rw [← hy50] at l50b
        have hc50 := S1.out.cmp HC.out (by omega) x50 y50
        have hv50 : cf x50 y50 < 0 := by rw [hx50, hy50]; exact hv
        have hd50 : decide (cf x50 y50 < 0) = true := decide_eq_true hv50
        clear hx50 hy50
        go_wp2_with fail
        go_quiet_grown (first | (go_at_fn g; refine Calls.grown_of (hc50 _ _)))
        have S3 : Aside (SWK enc k w0 blk off d (grow (wr.drewN nq) osq)) := S1.out.grown nq osq
        clear l50a l50b hc50 S1
        generalize grow (wr.drewN nq) osq = w3 at S3 ⊢
        clear nq osq
        go_wp2
        go_roundg (j - (h + 1))
        case measure => omega
        case rel => exact ⟨h + 1, j, by go_num, rfl, by omega, by omega, by omega, by omega, fun hl => absurd hv (hl h (by omega) (by omega)), S3⟩
      · have ea50 : (((h) : Nat) : Int).toNat = h := by omega
        have pa50 : (0 : Int) ≤ ((h : Nat) : Int) := by omega
        have ba50 : ((h : Nat) : Int) < (d.size : Int) := by omega
        have ra50 : IntKind.i64.wrap ((h : Nat) : Int) = ((h : Nat) : Int) := by rw [IntKind.wrap_i64]; omega
        have ec50 : (((a) : Nat) : Int).toNat = a := by omega
        have pc50 : (0 : Int) ≤ ((a : Nat) : Int) := by omega
        have bc50 : ((a : Nat) : Int) < (d.size : Int) := by omega
        have rc50 : IntKind.i64.wrap ((a : Nat) : Int) = ((a : Nat) : Int) := by rw [IntKind.wrap_i64]; omega
        obtain ⟨x50, hx50⟩ : ∃ x, x = d[h]! := ⟨_, rfl⟩
        obtain ⟨y50, hy50⟩ : ∃ x, x = d[a]! := ⟨_, rfl⟩
        have l50a := S1.out.ld R (by omega) Tryz.prog (h) (by omega)
        have l50b := S1.out.ld R (by omega) Tryz.prog (a) (by omega)
        rw [← hx50] at l50a
        rw [← hy50] at l50b
        have hc50 := S1.out.cmp HC.out (by omega) x50 y50
        have hv50 : ¬ cf x50 y50 < 0 := by rw [hx50, hy50]; exact hv
        have hd50 : decide (cf x50 y50 < 0) = false := decide_eq_false hv50
        clear hx50 hy50
        go_wp2_with fail
        go_quiet_grown (first | (go_at_fn g; refine Calls.grown_of (hc50 _ _)))
        have S3 : Aside (SWK enc k w0 blk off d (grow (wr.drewN nq) osq)) := S1.out.grown nq osq
        clear l50a l50b hc50 S1
        generalize grow (wr.drewN nq) osq = w3 at S3 ⊢
        clear nq osq
        go_wp2
        go_roundg (h - i)
        case measure => omega
        case rel => exact ⟨i, h, rfl, by go_num, by omega, by omega, by omega, by omega, hL, S3⟩
    · have hltz : ¬ (i : Int) < (j : Int) := by omega
      go_wp2
      go_loopg [13] (i - a) (fun kx s13 wr => ∃ (q : Nat) (dk : Array α), s13 = .int .i64 q ∧ a ≤ q ∧ q ≤ i - 1 ∧ i - q ≤ kx ∧ Aside (PermIn a b d dk) ∧ Aside (Least cf a b d → dk = d) ∧ Aside (SWK enc k w0 blk off dk wr))
      case atStart => exact ⟨a, d, rfl, by omega, by omega, by omega, permIn_refl d a b, fun _ => rfl, S1⟩
      case round =>
        clear S1
        obtain ⟨q, dk, rfl, haq, hqi, hkx, hP, hE, S1⟩ := hrel
        have hds : dk.size = d.size := hP.out.1
        by_cases hq : q < i - 1
        · have hqz : (q : Int) < (i : Int) - 1 := by omega
          obtain ⟨q1, hq1⟩ : ∃ q1, q + 1 = q1 := ⟨_, rfl⟩
          have hq1z : (q : Int) + 1 = (q1 : Int) := by omega
          have HQ1 := Lib.hid hq1
          clear hq1
          have hq1q : q < q1 := by omega
          have hq1i : q1 < i := by omega
          have hE2 : Aside (Least cf a b d → swp dk q q1 = d) := fun hl => by have := hL.out hl; omega
          have ea70 : (((q) : Nat) : Int).toNat = q := by omega
          have pa70 : (0 : Int) ≤ ((q : Nat) : Int) := by omega
          have ba70 : ((q : Nat) : Int) < (d.size : Int) := by omega
          have ra70 : IntKind.i64.wrap ((q : Nat) : Int) = ((q : Nat) : Int) := by rw [IntKind.wrap_i64]; omega
          have ec70 : (((q1) : Nat) : Int).toNat = q1 := by omega
          have pc70 : (0 : Int) ≤ ((q1 : Nat) : Int) := by omega
          have bc70 : ((q1 : Nat) : Int) < (d.size : Int) := by omega
          have rc70 : IntKind.i64.wrap ((q1 : Nat) : Int) = ((q1 : Nat) : Int) := by rw [IntKind.wrap_i64]; omega
          have S2 : Aside (SWK enc k w0 blk off (swp dk q q1) ((wr.drew.setCells blk (off + q * k) (enc dk[q1]!)).setCells blk (off + q1 * k) (enc dk[q]!))) := S1.out.swapped R q q1 (by omega) (by omega)
          have l70a := S1.out.ld1 R (by omega) Tryz.prog q (by omega)
          have l70b := S1.out.ld1 R (by omega) Tryz.prog q1 (by omega)
          have s70a := S1.out.st1 R (by omega) Tryz.prog q (by omega) dk[q1]!
          have s70b := S1.out.st2 R (by omega) Tryz.prog q q1 (by omega) (by omega) dk[q1]! dk[q]!
          have n70a : (enc dk[q]!).length = k := R.hk _
          have n70b : (enc dk[q1]!).length = k := R.hk _
          have hP2 : Aside (PermIn a b d (swp dk q q1)) := permIn_trans _ _ _ _ _ hP.out (swp_permIn dk a b q q1 (by omega) (by omega) (by omega) (by omega) (by omega))
          generalize enc dk[q]! = cI70 at S2 l70a s70b n70a
          generalize enc dk[q1]! = cJ70 at S2 l70b s70a s70b n70b
          clear S1
          go_wp2_with fail
          go_big_region_o
          clear l70a l70b s70a s70b
          generalize (wr.drew.setCells blk (off + q * k) cJ70).setCells blk (off + q1 * k) cI70 = w2 at S2 ⊢
          go_wp2
          go_roundg (i - q1)
          case measure => omega
          case rel => exact ⟨q1, swp dk q q1, by go_num, by omega, by omega, by omega, hP2, hE2, S2⟩
        · have hqz : ¬ (q : Int) < (i : Int) - 1 := by omega
          go_wp2
          refine bodyPost_ret (results_none rfl _ _ _) rfl ?_
          exact ⟨rfl, dk, hP.out, HK4.out ▸ S1.out, fun hl => by rw [hE.out hl]⟩

set_option maxHeartbeats 4000000 in
set_option maxRecDepth 1000000 in
/-- One behind: it is put where it belongs. -/
theorem symMerge_last (enc : α → List Value) (cf : α → α → Int) (g : Nat) (cb : Array Value) (blk off cap a m b : Nat) (d0 d : Array α) (w0 w : World)
    (eg : ∀ args w, (callFunc g args).run Tryz.prog w = .ok (.enter g args) w) (HC : Aside (CmpLays Tryz.prog g cb enc 4 cf blk off d0.size w0))
    (R : RowK enc 4 w0 blk off d0) (hs : d0.size = d.size) (S : SWK enc 4 w0 blk off d w) (h0 : a + 1 < m) (h2 : b = m + 1) (h5 : b ≤ d.size) (hsz : d.size < 4611686018427387904) :
    Calls Tryz.prog 165 #[.slice (some ⟨blk, off, none⟩) d.size cap, .int .i64 a, .int .i64 m, .int .i64 b, .func (.func g) #[] cb] w fun e w' => e = .returned (.tuple #[]) ∧ ∃ d', PermIn a b d d' ∧ SWK enc 4 w0 blk off d' w' ∧ (Least cf a b d → d'[a]! = d[a]!) := by
  have mixed : Tryz.prog.follows .mixedOrders = true := by kernel_rfl
  obtain ⟨k, hk4⟩ : ∃ k, k = 4 := ⟨_, rfl⟩
  rw [← hk4] at R S HC ⊢
  have zE : ∀ w, (Go.sizeOf 97).run Tryz.prog w = .ok k w := by rw [hk4]; exact Tryz.sizeOf97
  have HK4 : Hid (k = 4) := hk4
  clear hk4
  have S0 : Aside (SWK enc k w0 blk off d w) := S
  clear S
  have H2 : Hid (b = m + 1) := h2
  have c0 : ((m : Int) - (a : Int) == 1) = false := beq_eq_false_iff_ne.mpr (by omega)
  have c1 : (b : Int) - (m : Int) = 1 := by omega
  clear h2
  go_enter Tryz.func165, Tryz.ntmps165
  go_wp2
  go_loopg [14, 15, 16] (m - a) (fun kx s10 s11 s12 wr => ∃ (i j : Nat), s10 = .int .i64 i ∧ s11 = .int .i64 j ∧ a ≤ i ∧ i ≤ j ∧ j ≤ m ∧ j - i ≤ kx ∧ Aside (Least cf a b d → a < j) ∧ Aside (SWK enc k w0 blk off d wr))
  case atStart => exact ⟨a, m, rfl, rfl, by omega, by omega, by omega, by omega, fun _ => by omega, S0⟩
  case round =>
    clear S0
    obtain ⟨i, j, rfl, rfl, hmi, hij, hjb, hkx, hL, S1⟩ := hrel
    by_cases hlt : i < j
    · have hltz : (i : Int) < (j : Int) := by omega
      obtain ⟨h, hh⟩ : ∃ h, (i + j) / 2 = h := ⟨_, rfl⟩
      have hhz : ((i : Int) + (j : Int)) / 2 = (h : Int) := by omega
      have hih : i ≤ h := by omega
      have hhj : h < j := by omega
      clear hh
      have hmd : m < d.size := by have := H2.out; omega
      have hmb : m < b := by have := H2.out; omega
      by_cases hv : cf d[m]! d[h]! < 0
      · have ea60 : (((m) : Nat) : Int).toNat = m := by omega
        have pa60 : (0 : Int) ≤ ((m : Nat) : Int) := by omega
        have ba60 : ((m : Nat) : Int) < (d.size : Int) := by omega
        have ra60 : IntKind.i64.wrap ((m : Nat) : Int) = ((m : Nat) : Int) := by rw [IntKind.wrap_i64]; omega
        have ec60 : (((h) : Nat) : Int).toNat = h := by omega
        have pc60 : (0 : Int) ≤ ((h : Nat) : Int) := by omega
        have bc60 : ((h : Nat) : Int) < (d.size : Int) := by omega
        have rc60 : IntKind.i64.wrap ((h : Nat) : Int) = ((h : Nat) : Int) := by rw [IntKind.wrap_i64]; omega
        obtain ⟨x60, hx60⟩ : ∃ x, x = d[m]! := ⟨_, rfl⟩
        obtain ⟨y60, hy60⟩ : ∃ x, x = d[h]! := ⟨_, rfl⟩
        have l60a := S1.out.ld R (by omega) Tryz.prog (m) (by omega)
        have l60b := S1.out.ld R (by omega) Tryz.prog (h) (by omega)
        rw [← hx60] at l60a
        rw [← hy60] at l60b
        have hc60 := S1.out.cmp HC.out (by omega) x60 y60
        have hv60 : cf x60 y60 < 0 := by rw [hx60, hy60]; exact hv
        have hd60 : decide (cf x60 y60 < 0) = true := decide_eq_true hv60
        clear hx60 hy60
        go_wp2_with fail
        go_quiet_grown (first | (go_at_fn g; refine Calls.grown_of (hc60 _ _)))
        have S3 : Aside (SWK enc k w0 blk off d (grow (wr.drewN nq) osq)) := S1.out.grown nq osq
        clear l60a l60b hc60 S1
        generalize grow (wr.drewN nq) osq = w3 at S3 ⊢
        clear nq osq
        go_wp2
        go_roundg (h - i)
        case measure => omega
        case rel =>
          refine ⟨i, h, rfl, by go_num, by omega, by omega, by omega, by omega, fun hl => ?_, S3⟩
          rcases Nat.lt_or_ge a h with q | q
          · exact q
          · have e : h = a := by omega
            rw [e] at hv
            exact absurd hv (hl m (by omega) (by omega))
      · have ea60 : (((m) : Nat) : Int).toNat = m := by omega
        have pa60 : (0 : Int) ≤ ((m : Nat) : Int) := by omega
        have ba60 : ((m : Nat) : Int) < (d.size : Int) := by omega
        have ra60 : IntKind.i64.wrap ((m : Nat) : Int) = ((m : Nat) : Int) := by rw [IntKind.wrap_i64]; omega
        have ec60 : (((h) : Nat) : Int).toNat = h := by omega
        have pc60 : (0 : Int) ≤ ((h : Nat) : Int) := by omega
        have bc60 : ((h : Nat) : Int) < (d.size : Int) := by omega
        have rc60 : IntKind.i64.wrap ((h : Nat) : Int) = ((h : Nat) : Int) := by rw [IntKind.wrap_i64]; omega
        obtain ⟨x60, hx60⟩ : ∃ x, x = d[m]! := ⟨_, rfl⟩
        obtain ⟨y60, hy60⟩ : ∃ x, x = d[h]! := ⟨_, rfl⟩
        have l60a := S1.out.ld R (by omega) Tryz.prog (m) (by omega)
        have l60b := S1.out.ld R (by omega) Tryz.prog (h) (by omega)
        rw [← hx60] at l60a
        rw [← hy60] at l60b
        have hc60 := S1.out.cmp HC.out (by omega) x60 y60
        have hv60 : ¬ cf x60 y60 < 0 := by rw [hx60, hy60]; exact hv
        have hd60 : decide (cf x60 y60 < 0) = false := decide_eq_false hv60
        clear hx60 hy60
        go_wp2_with fail
        go_quiet_grown (first | (go_at_fn g; refine Calls.grown_of (hc60 _ _)))
        have S3 : Aside (SWK enc k w0 blk off d (grow (wr.drewN nq) osq)) := S1.out.grown nq osq
        clear l60a l60b hc60 S1
        generalize grow (wr.drewN nq) osq = w3 at S3 ⊢
        clear nq osq
        go_wp2
        go_roundg (j - (h + 1))
        case measure => omega
        case rel => exact ⟨h + 1, j, by go_num, rfl, by omega, by omega, by omega, by omega, hL, S3⟩
    · have hltz : ¬ (i : Int) < (j : Int) := by omega
      have hL2 : Aside (Least cf a b d → a < i) := fun hl => by have := hL.out hl; omega
      clear hL
      go_wp2
      go_loopg [17] (m - i) (fun kx s13 wr => ∃ (q : Nat) (dk : Array α), s13 = .int .i64 q ∧ i ≤ q ∧ q ≤ m ∧ q - i ≤ kx ∧ Aside (PermIn a b d dk) ∧ Aside (Least cf a b d → dk[a]! = d[a]!) ∧ Aside (SWK enc k w0 blk off dk wr))
      case atStart => exact ⟨m, d, rfl, by omega, by omega, by omega, permIn_refl d a b, fun _ => rfl, S1⟩
      case round =>
        clear S1
        obtain ⟨q, dk, rfl, haq, hqi, hkx, hP, hE, S1⟩ := hrel
        have hds : dk.size = d.size := hP.out.1
        by_cases hq : i < q
        · have hqz : (i : Int) < (q : Int) := by omega
          have hmd : m < d.size := by have := H2.out; omega
          have hmb : m < b := by have := H2.out; omega
          obtain ⟨q1, hq1⟩ : ∃ q1, q - 1 = q1 := ⟨_, rfl⟩
          have hq1z : (q : Int) - 1 = (q1 : Int) := by omega
          have HQ1 := Lib.hid hq1
          have hq1q : q1 < q := by omega
          have hq1i : i ≤ q1 := by omega
          clear hq1
          have hE2 : Aside (Least cf a b d → (swp dk q q1)[a]! = d[a]!) := fun hl => by
            have := hL2.out hl
            rw [swp_other dk q q1 a (by omega) (by omega), hE.out hl]
          have ea80 : (((q) : Nat) : Int).toNat = q := by omega
          have pa80 : (0 : Int) ≤ ((q : Nat) : Int) := by omega
          have ba80 : ((q : Nat) : Int) < (d.size : Int) := by omega
          have ra80 : IntKind.i64.wrap ((q : Nat) : Int) = ((q : Nat) : Int) := by rw [IntKind.wrap_i64]; omega
          have ec80 : (((q1) : Nat) : Int).toNat = q1 := by omega
          have pc80 : (0 : Int) ≤ ((q1 : Nat) : Int) := by omega
          have bc80 : ((q1 : Nat) : Int) < (d.size : Int) := by omega
          have rc80 : IntKind.i64.wrap ((q1 : Nat) : Int) = ((q1 : Nat) : Int) := by rw [IntKind.wrap_i64]; omega
          have S2 : Aside (SWK enc k w0 blk off (swp dk q q1) ((wr.drew.setCells blk (off + q * k) (enc dk[q1]!)).setCells blk (off + q1 * k) (enc dk[q]!))) := S1.out.swapped R q q1 (by omega) (by omega)
          have l80a := S1.out.ld1 R (by omega) Tryz.prog q (by omega)
          have l80b := S1.out.ld1 R (by omega) Tryz.prog q1 (by omega)
          have s80a := S1.out.st1 R (by omega) Tryz.prog q (by omega) dk[q1]!
          have s80b := S1.out.st2 R (by omega) Tryz.prog q q1 (by omega) (by omega) dk[q1]! dk[q]!
          have n80a : (enc dk[q]!).length = k := R.hk _
          have n80b : (enc dk[q1]!).length = k := R.hk _
          have hP2 : Aside (PermIn a b d (swp dk q q1)) := permIn_trans _ _ _ _ _ hP.out (swp_permIn dk a b q q1 (by omega) (by omega) (by omega) (by omega) (by omega))
          generalize enc dk[q]! = cI80 at S2 l80a s80b n80a
          generalize enc dk[q1]! = cJ80 at S2 l80b s80a s80b n80b
          clear S1
          go_wp2_with fail
          go_big_region_o
          clear l80a l80b s80a s80b
          generalize (wr.drew.setCells blk (off + q * k) cJ80).setCells blk (off + q1 * k) cI80 = w2 at S2 ⊢
          go_wp2
          go_roundg (q1 - i)
          case measure => omega
          case rel => exact ⟨q1, swp dk q q1, by go_num, by omega, by omega, by omega, hP2, hE2, S2⟩
        · have hqz : ¬ (i : Int) < (q : Int) := by omega
          go_wp2
          refine bodyPost_ret (results_none rfl _ _ _) rfl ?_
          exact ⟨rfl, dk, hP.out, HK4.out ▸ S1.out, hE.out⟩
end Go.Proofs.YtbilegkffooioaaGreatDoor
/-
  slices.SortStableFunc at 'seen': merging in place, of more than one on either side.
-/
namespace Go.Proofs.YtbilegkffooioaaGreatDoor
open Go.Shelf Go.RowKit Go.Lib Go.Sort
variable {α : Type} [Inhabited α]

theorem Least.perm {cf : α → α → Int} {a b : Nat} {d d2 : Array α} (h : Least cf a b d) (hP : PermIn a b d d2) (he : d2[a]! = d[a]!) (hb : b ≤ d.size) : Least cf a b d2 := by
  unfold Least at *
  rw [he]
  intro i h1 h2
  exact permIn_all d d2 a b (fun x => ¬ cf x d[a]! < 0) hb hP h i h1 h2

theorem Least.sub {cf : α → α → Int} {a b b' : Nat} {d : Array α} (h : Least cf a b d) (hb : b' ≤ b) : Least cf a b' d := fun i h1 h2 => h i h1 (by omega)

set_option maxHeartbeats 4000000 in
set_option maxRecDepth 1000000 in
theorem symMerge_high (enc : α → List Value) (cf : α → α → Int) (g : Nat) (cb : Array Value) (blk off cap a m b : Nat) (d0 d : Array α) (w0 w : World)
    (eg : ∀ args w, (callFunc g args).run Tryz.prog w = .ok (.enter g args) w) (HC : Aside (CmpLays Tryz.prog g cb enc 4 cf blk off d0.size w0))
    (R : RowK enc 4 w0 blk off d0) (hs : d0.size = d.size) (S : SWK enc 4 w0 blk off d w) (h0 : a + 1 < m) (h2 : m + 1 < b) (hbig : (a + b) / 2 < m) (IH : Hid (∀ (a' m' b' : Nat) (dk : Array α) (wr : World), b' - a' < b - a → dk.size = d.size → SWK enc 4 w0 blk off dk wr → a' < m' → m' < b' → b' ≤ d.size →
      Calls Tryz.prog 165 #[.slice (some ⟨blk, off, none⟩) d.size cap, .int .i64 a', .int .i64 m', .int .i64 b', .func (.func g) #[] cb] wr fun e w' => e = .returned (.tuple #[]) ∧ ∃ d', PermIn a' b' dk d' ∧ SWK enc 4 w0 blk off d' w' ∧ (Least cf a' b' dk → d'[a']! = dk[a']!))) (h5 : b ≤ d.size) (hsz : d.size < 4611686018427387904) :
    Calls Tryz.prog 165 #[.slice (some ⟨blk, off, none⟩) d.size cap, .int .i64 a, .int .i64 m, .int .i64 b, .func (.func g) #[] cb] w fun e w' => e = .returned (.tuple #[]) ∧ ∃ d', PermIn a b d d' ∧ SWK enc 4 w0 blk off d' w' ∧ (Least cf a b d → d'[a]! = d[a]!) := by
  have mixed : Tryz.prog.follows .mixedOrders = true := by kernel_rfl
  have RT : Hid (∀ (a' m' b' : Nat) (dk : Array α) (wr : World), dk.size = d.size → SWK enc 4 w0 blk off dk wr → a' < m' → m' < b' → b' ≤ d.size →
      Calls Tryz.prog 228 #[.slice (some ⟨blk, off, none⟩) d.size cap, .int .i64 a', .int .i64 m', .int .i64 b', .func (.func g) #[] cb] wr fun e w' => e = .returned (.tuple #[]) ∧ ∃ d', PermIn a' b' dk d' ∧ SWK enc 4 w0 blk off d' w') := fun a' m' b' dk wr hd hS q1 q2 q3 => by
    rw [← hd]
    exact rotate_calls enc g cb blk off cap a' m' b' d0 dk w0 wr R (hs.trans hd.symm) hS q1 q2 (by omega) (by omega)
  obtain ⟨k, hk4⟩ : ∃ k, k = 4 := ⟨_, rfl⟩
  rw [← hk4] at R S HC IH RT ⊢
  have zE : ∀ w, (Go.sizeOf 97).run Tryz.prog w = .ok k w := by rw [hk4]; exact Tryz.sizeOf97
  have HK4 : Hid (k = 4) := hk4
  clear hk4
  have S0 : Aside (SWK enc k w0 blk off d w) := S
  clear S
  have c0 : ((m : Int) - (a : Int) == 1) = false := beq_eq_false_iff_ne.mpr (by omega)
  have c1 : ((b : Int) - (m : Int) == 1) = false := beq_eq_false_iff_ne.mpr (by omega)
  obtain ⟨mid, hmid⟩ : ∃ mid, (a + b) / 2 = mid := ⟨_, rfl⟩
  have hmz : ((a : Int) + (b : Int)) / 2 = (mid : Int) := by omega
  have hm1 : 2 * mid ≤ a + b := by omega
  have hm2 : a + b ≤ 2 * mid + 1 := by omega
  rw [hmid] at hbig
  clear hmid
  obtain ⟨n, hn⟩ : ∃ n, mid + m = n := ⟨_, rfl⟩
  have hnz : (mid : Int) + (m : Int) = (n : Int) := by omega
  have hn1 : mid + m ≤ n := by omega
  have hn2 : n ≤ mid + m := by omega
  clear hn
  obtain ⟨p, hp⟩ : ∃ p, n - 1 = p := ⟨_, rfl⟩
  have hpz : (n : Int) - 1 = (p : Int) := by omega
  have hp1 : p + 1 ≤ n := by omega
  have hp2 : n ≤ p + 1 := by omega
  clear hp
  obtain ⟨s0, hs0⟩ : ∃ s0, n - b = s0 := ⟨_, rfl⟩
  have hs0z : (n : Int) - (b : Int) = (s0 : Int) := by omega
  have hs1 : s0 + b ≤ n := by omega
  have hs2 : n ≤ s0 + b := by omega
  clear hs0
  have hbz : (mid : Int) < (m : Int) := by omega
  go_enter Tryz.func165, Tryz.ntmps165
  go_wp2
  go_loopg [20, 21, 23] (mid - s0) (fun kx s10 s11 s12 wr => ∃ (i j : Nat), s10 = .int .i64 i ∧ s11 = .int .i64 j ∧ s0 ≤ i ∧ i ≤ j ∧ j ≤ mid ∧ j - i ≤ kx ∧ Aside (Least cf a b d → a < j) ∧ Aside (SWK enc k w0 blk off d wr))
  case atStart => exact ⟨s0, mid, rfl, rfl, by omega, by omega, by omega, by omega, fun _ => by omega, S0⟩
  case round =>
    clear S0
    obtain ⟨i, j, rfl, rfl, hmi, hij, hjb, hkx, hL, S1⟩ := hrel
    by_cases hlt : i < j
    · have hltz : (i : Int) < (j : Int) := by omega
      obtain ⟨h, hh⟩ : ∃ h, (i + j) / 2 = h := ⟨_, rfl⟩
      have hhz : ((i : Int) + (j : Int)) / 2 = (h : Int) := by omega
      have hih : i ≤ h := by omega
      have hhj : h < j := by omega
      clear hh
      obtain ⟨u, hu⟩ : ∃ u, p - h = u := ⟨_, rfl⟩
      have huz : (p : Int) - (h : Int) = (u : Int) := by omega
      have hu1 : u < b := by omega
      have hu2 : m ≤ u := by omega
      clear hu
      by_cases hv : cf d[u]! d[h]! < 0
      · have ea70 : (((u) : Nat) : Int).toNat = u := by omega
        have pa70 : (0 : Int) ≤ ((u : Nat) : Int) := by omega
        have ba70 : ((u : Nat) : Int) < (d.size : Int) := by omega
        have ra70 : IntKind.i64.wrap ((u : Nat) : Int) = ((u : Nat) : Int) := by rw [IntKind.wrap_i64]; omega
        have ec70 : (((h) : Nat) : Int).toNat = h := by omega
        have pc70 : (0 : Int) ≤ ((h : Nat) : Int) := by omega
        have bc70 : ((h : Nat) : Int) < (d.size : Int) := by omega
        have rc70 : IntKind.i64.wrap ((h : Nat) : Int) = ((h : Nat) : Int) := by rw [IntKind.wrap_i64]; omega
        obtain ⟨x70, hx70⟩ : ∃ x, x = d[u]! := ⟨_, rfl⟩
        obtain ⟨y70, hy70⟩ : ∃ x, x = d[h]! := ⟨_, rfl⟩
        have l70a := S1.out.ld R (by omega) Tryz.prog (u) (by omega)
        have l70b := S1.out.ld R (by omega) Tryz.prog (h) (by omega)
        rw [← hx70] at l70a
        rw [← hy70] at l70b
        have hc70 := S1.out.cmp HC.out (by omega) x70 y70
        have hv70 : cf x70 y70 < 0 := by rw [hx70, hy70]; exact hv
        have hd70 : decide (cf x70 y70 < 0) = true := decide_eq_true hv70
        clear hx70 hy70
        go_wp2_with fail
        go_quiet_grown (first | (go_at_fn g; refine Calls.grown_of (hc70 _ _)))
        have S3 : Aside (SWK enc k w0 blk off d (grow (wr.drewN nq) osq)) := S1.out.grown nq osq
        clear l70a l70b hc70 S1
        generalize grow (wr.drewN nq) osq = w3 at S3 ⊢
        clear nq osq
        go_wp2
        go_roundg (h - i)
        case measure => omega
        case rel =>
          refine ⟨i, h, rfl, by go_num, by omega, by omega, by omega, by omega, fun hl => ?_, S3⟩
          rcases Nat.lt_or_ge a h with q | q
          · exact q
          · have e : h = a := by omega
            rw [e] at hv
            exact absurd hv (hl u (by omega) (by omega))
      · have ea70 : (((u) : Nat) : Int).toNat = u := by omega
        have pa70 : (0 : Int) ≤ ((u : Nat) : Int) := by omega
        have ba70 : ((u : Nat) : Int) < (d.size : Int) := by omega
        have ra70 : IntKind.i64.wrap ((u : Nat) : Int) = ((u : Nat) : Int) := by rw [IntKind.wrap_i64]; omega
        have ec70 : (((h) : Nat) : Int).toNat = h := by omega
        have pc70 : (0 : Int) ≤ ((h : Nat) : Int) := by omega
        have bc70 : ((h : Nat) : Int) < (d.size : Int) := by omega
        have rc70 : IntKind.i64.wrap ((h : Nat) : Int) = ((h : Nat) : Int) := by rw [IntKind.wrap_i64]; omega
        obtain ⟨x70, hx70⟩ : ∃ x, x = d[u]! := ⟨_, rfl⟩
        obtain ⟨y70, hy70⟩ : ∃ x, x = d[h]! := ⟨_, rfl⟩
        have l70a := S1.out.ld R (by omega) Tryz.prog (u) (by omega)
        have l70b := S1.out.ld R (by omega) Tryz.prog (h) (by omega)
        rw [← hx70] at l70a
        rw [← hy70] at l70b
        have hc70 := S1.out.cmp HC.out (by omega) x70 y70
        have hv70 : ¬ cf x70 y70 < 0 := by rw [hx70, hy70]; exact hv
        have hd70 : decide (cf x70 y70 < 0) = false := decide_eq_false hv70
        clear hx70 hy70
        go_wp2_with fail
        go_quiet_grown (first | (go_at_fn g; refine Calls.grown_of (hc70 _ _)))
        have S3 : Aside (SWK enc k w0 blk off d (grow (wr.drewN nq) osq)) := S1.out.grown nq osq
        clear l70a l70b hc70 S1
        generalize grow (wr.drewN nq) osq = w3 at S3 ⊢
        clear nq osq
        go_wp2
        go_roundg (j - (h + 1))
        case measure => omega
        case rel => exact ⟨h + 1, j, by go_num, rfl, by omega, by omega, by omega, by omega, hL, S3⟩
    · have hltz : ¬ (i : Int) < (j : Int) := by omega
      have hA : Aside (Least cf a b d → a < i) := fun hl => by have := hL.out hl; omega
      clear hL
      have him : i ≤ m := by omega
      have himid : i ≤ mid := by omega
      obtain ⟨e, he⟩ : ∃ e, n - i = e := ⟨_, rfl⟩
      have hez : (n : Int) - (i : Int) = (e : Int) := by omega
      have he1 : e + i ≤ n := by omega
      have he2 : n ≤ e + i := by omega
      have he3 : e ≤ b := by omega
      clear he
      have hPa : Aside (PermIn a b d d) := permIn_refl d a b
      have kP : i < m := by omega
      by_cases kQ : i < mid
      · by_cases kA : a < i
        · by_cases kE : e < b
          · have z1 : (i : Int) < (m : Int) := by omega
            have z2 : (mid : Int) < (e : Int) := by omega
            have z3 : (m : Int) < (e : Int) := by omega
            have z4 : (i : Int) < (mid : Int) := by omega
            have z5 : (a : Int) < (i : Int) := by omega
            have z6 : (e : Int) < (b : Int) := by omega
            go_wp2_with fail
            refine (RT.out i m e d wr rfl S1.out (by omega) (by omega) (by omega)).mono ?_
            rintro _ w2 ⟨rfl, d2, hP2', S2'⟩
            have S2 : Aside (SWK enc k w0 blk off d2 w2) := S2'
            have hPa2 : Aside (PermIn a b d d2) := permIn_mono d d2 i e a b (by omega) (by omega) (by omega) hP2'
            have hH2 : Aside (Least cf a b d → d2[a]! = d[a]!) := fun hl => hP2'.2.1 a (Or.inl (hA.out hl))
            have hs2 : d2.size = d.size := hP2'.1
            clear S2' hP2'
            go_wp2_with fail
            refine (IH.out a i mid d2 w2 (by omega) hs2 S2.out (by omega) (by omega) (by omega)).mono ?_
            rintro _ w3 ⟨rfl, d3, hP3', S3', hL3'⟩
            have S3 : Aside (SWK enc k w0 blk off d3 w3) := S3'
            have hPa3 : Aside (PermIn a b d d3) := permIn_trans _ _ _ _ _ hPa2.out (permIn_mono d2 d3 a mid a b (by omega) (by omega) (by omega) hP3')
            have hH3 : Aside (Least cf a b d → d3[a]! = d[a]!) := fun hl => (hL3' ((hl.perm hPa2.out (hH2.out hl) h5).sub (by omega))).trans (hH2.out hl)
            have hs3 : d3.size = d.size := hP3'.1.trans hs2
            clear S3' hP3' hL3'
            go_wp2_with fail
            refine (IH.out mid e b d3 w3 (by omega) hs3 S3.out (by omega) (by omega) (by omega)).mono ?_
            rintro _ w4 ⟨rfl, d4, hP4', S4', hL4'⟩
            have S4 : Aside (SWK enc k w0 blk off d4 w4) := S4'
            have hPa4 : Aside (PermIn a b d d4) := permIn_trans _ _ _ _ _ hPa3.out (permIn_mono d3 d4 mid b a b (by omega) (by omega) (by omega) hP4')
            have hH4 : Aside (Least cf a b d → d4[a]! = d[a]!) := fun hl => (hP4'.2.1 a (Or.inl (by omega))).trans (hH3.out hl)
            clear S4' hP4' hL4'
            go_wp2_with fail
            go_end0
            exact ⟨rfl, d4, hPa4.out, HK4.out ▸ S4.out, hH4.out⟩
          · have z1 : (i : Int) < (m : Int) := by omega
            have z2 : (mid : Int) < (e : Int) := by omega
            have z3 : (m : Int) < (e : Int) := by omega
            have z4 : (i : Int) < (mid : Int) := by omega
            have z5 : (a : Int) < (i : Int) := by omega
            have z6 : ¬ (e : Int) < (b : Int) := by omega
            go_wp2_with fail
            refine (RT.out i m e d wr rfl S1.out (by omega) (by omega) (by omega)).mono ?_
            rintro _ w2 ⟨rfl, d2, hP2', S2'⟩
            have S2 : Aside (SWK enc k w0 blk off d2 w2) := S2'
            have hPa2 : Aside (PermIn a b d d2) := permIn_mono d d2 i e a b (by omega) (by omega) (by omega) hP2'
            have hH2 : Aside (Least cf a b d → d2[a]! = d[a]!) := fun hl => hP2'.2.1 a (Or.inl (hA.out hl))
            have hs2 : d2.size = d.size := hP2'.1
            clear S2' hP2'
            go_wp2_with fail
            refine (IH.out a i mid d2 w2 (by omega) hs2 S2.out (by omega) (by omega) (by omega)).mono ?_
            rintro _ w3 ⟨rfl, d3, hP3', S3', hL3'⟩
            have S3 : Aside (SWK enc k w0 blk off d3 w3) := S3'
            have hPa3 : Aside (PermIn a b d d3) := permIn_trans _ _ _ _ _ hPa2.out (permIn_mono d2 d3 a mid a b (by omega) (by omega) (by omega) hP3')
            have hH3 : Aside (Least cf a b d → d3[a]! = d[a]!) := fun hl => (hL3' ((hl.perm hPa2.out (hH2.out hl) h5).sub (by omega))).trans (hH2.out hl)
            have hs3 : d3.size = d.size := hP3'.1.trans hs2
            clear S3' hP3' hL3'
            go_wp2_with fail
            go_end0
            exact ⟨rfl, d3, hPa3.out, HK4.out ▸ S3.out, hH3.out⟩
        · by_cases kE : e < b
          · have z1 : (i : Int) < (m : Int) := by omega
            have z2 : (mid : Int) < (e : Int) := by omega
            have z3 : (m : Int) < (e : Int) := by omega
            have z4 : (i : Int) < (mid : Int) := by omega
            have z5 : ¬ (a : Int) < (i : Int) := by omega
            have z6 : (e : Int) < (b : Int) := by omega
            go_wp2_with fail
            refine (RT.out i m e d wr rfl S1.out (by omega) (by omega) (by omega)).mono ?_
            rintro _ w2 ⟨rfl, d2, hP2', S2'⟩
            have S2 : Aside (SWK enc k w0 blk off d2 w2) := S2'
            have hPa2 : Aside (PermIn a b d d2) := permIn_mono d d2 i e a b (by omega) (by omega) (by omega) hP2'
            have hH2 : Aside (Least cf a b d → d2[a]! = d[a]!) := fun hl => hP2'.2.1 a (Or.inl (hA.out hl))
            have hs2 : d2.size = d.size := hP2'.1
            clear S2' hP2'
            go_wp2_with fail
            refine (IH.out mid e b d2 w2 (by omega) hs2 S2.out (by omega) (by omega) (by omega)).mono ?_
            rintro _ w4 ⟨rfl, d4, hP4', S4', hL4'⟩
            have S4 : Aside (SWK enc k w0 blk off d4 w4) := S4'
            have hPa4 : Aside (PermIn a b d d4) := permIn_trans _ _ _ _ _ hPa2.out (permIn_mono d2 d4 mid b a b (by omega) (by omega) (by omega) hP4')
            have hH4 : Aside (Least cf a b d → d4[a]! = d[a]!) := fun hl => (hP4'.2.1 a (Or.inl (by omega))).trans (hH2.out hl)
            clear S4' hP4' hL4'
            go_wp2_with fail
            go_end0
            exact ⟨rfl, d4, hPa4.out, HK4.out ▸ S4.out, hH4.out⟩
          · have z1 : (i : Int) < (m : Int) := by omega
            have z2 : (mid : Int) < (e : Int) := by omega
            have z3 : (m : Int) < (e : Int) := by omega
            have z4 : (i : Int) < (mid : Int) := by omega
            have z5 : ¬ (a : Int) < (i : Int) := by omega
            have z6 : ¬ (e : Int) < (b : Int) := by omega
            go_wp2_with fail
            refine (RT.out i m e d wr rfl S1.out (by omega) (by omega) (by omega)).mono ?_
            rintro _ w2 ⟨rfl, d2, hP2', S2'⟩
            have S2 : Aside (SWK enc k w0 blk off d2 w2) := S2'
            have hPa2 : Aside (PermIn a b d d2) := permIn_mono d d2 i e a b (by omega) (by omega) (by omega) hP2'
            have hH2 : Aside (Least cf a b d → d2[a]! = d[a]!) := fun hl => hP2'.2.1 a (Or.inl (hA.out hl))
            have hs2 : d2.size = d.size := hP2'.1
            clear S2' hP2'
            go_wp2_with fail
            go_end0
            exact ⟨rfl, d2, hPa2.out, HK4.out ▸ S2.out, hH2.out⟩
      · by_cases kA : a < i
        · by_cases kE : e < b
          · have z1 : (i : Int) < (m : Int) := by omega
            have z2 : (mid : Int) < (e : Int) := by omega
            have z3 : ¬ (m : Int) < (e : Int) := by omega
            have z4 : ¬ (i : Int) < (mid : Int) := by omega
            have z5 : (a : Int) < (i : Int) := by omega
            have z6 : (e : Int) < (b : Int) := by omega
            go_wp2_with fail
            refine (IH.out mid e b d wr (by omega) rfl S1.out (by omega) (by omega) (by omega)).mono ?_
            rintro _ w4 ⟨rfl, d4, hP4', S4', hL4'⟩
            have S4 : Aside (SWK enc k w0 blk off d4 w4) := S4'
            have hPa4 : Aside (PermIn a b d d4) := permIn_trans _ _ _ _ _ hPa.out (permIn_mono d d4 mid b a b (by omega) (by omega) (by omega) hP4')
            have hH4 : Aside (Least cf a b d → d4[a]! = d[a]!) := fun hl => (hP4'.2.1 a (Or.inl (by omega))).trans rfl
            clear S4' hP4' hL4'
            go_wp2_with fail
            go_end0
            exact ⟨rfl, d4, hPa4.out, HK4.out ▸ S4.out, hH4.out⟩
          · have z1 : (i : Int) < (m : Int) := by omega
            have z2 : (mid : Int) < (e : Int) := by omega
            have z3 : ¬ (m : Int) < (e : Int) := by omega
            have z4 : ¬ (i : Int) < (mid : Int) := by omega
            have z5 : (a : Int) < (i : Int) := by omega
            have z6 : ¬ (e : Int) < (b : Int) := by omega
            go_wp2_with fail
            go_end0
            exact ⟨rfl, d, hPa.out, HK4.out ▸ S1.out, (fun _ => rfl)⟩
        · by_cases kE : e < b
          · have z1 : (i : Int) < (m : Int) := by omega
            have z2 : (mid : Int) < (e : Int) := by omega
            have z3 : ¬ (m : Int) < (e : Int) := by omega
            have z4 : ¬ (i : Int) < (mid : Int) := by omega
            have z5 : ¬ (a : Int) < (i : Int) := by omega
            have z6 : (e : Int) < (b : Int) := by omega
            go_wp2_with fail
            refine (IH.out mid e b d wr (by omega) rfl S1.out (by omega) (by omega) (by omega)).mono ?_
            rintro _ w4 ⟨rfl, d4, hP4', S4', hL4'⟩
            have S4 : Aside (SWK enc k w0 blk off d4 w4) := S4'
            have hPa4 : Aside (PermIn a b d d4) := permIn_trans _ _ _ _ _ hPa.out (permIn_mono d d4 mid b a b (by omega) (by omega) (by omega) hP4')
            have hH4 : Aside (Least cf a b d → d4[a]! = d[a]!) := fun hl => (hP4'.2.1 a (Or.inl (by omega))).trans rfl
            clear S4' hP4' hL4'
            go_wp2_with fail
            go_end0
            exact ⟨rfl, d4, hPa4.out, HK4.out ▸ S4.out, hH4.out⟩
          · have z1 : (i : Int) < (m : Int) := by omega
            have z2 : (mid : Int) < (e : Int) := by omega
            have z3 : ¬ (m : Int) < (e : Int) := by omega
            have z4 : ¬ (i : Int) < (mid : Int) := by omega
            have z5 : ¬ (a : Int) < (i : Int) := by omega
            have z6 : ¬ (e : Int) < (b : Int) := by omega
            go_wp2_with fail
            go_end0
            exact ⟨rfl, d, hPa.out, HK4.out ▸ S1.out, (fun _ => rfl)⟩

set_option maxHeartbeats 4000000 in
set_option maxRecDepth 1000000 in
theorem symMerge_low (enc : α → List Value) (cf : α → α → Int) (g : Nat) (cb : Array Value) (blk off cap a m b : Nat) (d0 d : Array α) (w0 w : World)
    (eg : ∀ args w, (callFunc g args).run Tryz.prog w = .ok (.enter g args) w) (HC : Aside (CmpLays Tryz.prog g cb enc 4 cf blk off d0.size w0))
    (R : RowK enc 4 w0 blk off d0) (hs : d0.size = d.size) (S : SWK enc 4 w0 blk off d w) (h0 : a + 1 < m) (h2 : m + 1 < b) (hbig : m ≤ (a + b) / 2) (IH : Hid (∀ (a' m' b' : Nat) (dk : Array α) (wr : World), b' - a' < b - a → dk.size = d.size → SWK enc 4 w0 blk off dk wr → a' < m' → m' < b' → b' ≤ d.size →
      Calls Tryz.prog 165 #[.slice (some ⟨blk, off, none⟩) d.size cap, .int .i64 a', .int .i64 m', .int .i64 b', .func (.func g) #[] cb] wr fun e w' => e = .returned (.tuple #[]) ∧ ∃ d', PermIn a' b' dk d' ∧ SWK enc 4 w0 blk off d' w' ∧ (Least cf a' b' dk → d'[a']! = dk[a']!))) (h5 : b ≤ d.size) (hsz : d.size < 4611686018427387904) :
    Calls Tryz.prog 165 #[.slice (some ⟨blk, off, none⟩) d.size cap, .int .i64 a, .int .i64 m, .int .i64 b, .func (.func g) #[] cb] w fun e w' => e = .returned (.tuple #[]) ∧ ∃ d', PermIn a b d d' ∧ SWK enc 4 w0 blk off d' w' ∧ (Least cf a b d → d'[a]! = d[a]!) := by
  have mixed : Tryz.prog.follows .mixedOrders = true := by kernel_rfl
  have RT : Hid (∀ (a' m' b' : Nat) (dk : Array α) (wr : World), dk.size = d.size → SWK enc 4 w0 blk off dk wr → a' < m' → m' < b' → b' ≤ d.size →
      Calls Tryz.prog 228 #[.slice (some ⟨blk, off, none⟩) d.size cap, .int .i64 a', .int .i64 m', .int .i64 b', .func (.func g) #[] cb] wr fun e w' => e = .returned (.tuple #[]) ∧ ∃ d', PermIn a' b' dk d' ∧ SWK enc 4 w0 blk off d' w') := fun a' m' b' dk wr hd hS q1 q2 q3 => by
    rw [← hd]
    exact rotate_calls enc g cb blk off cap a' m' b' d0 dk w0 wr R (hs.trans hd.symm) hS q1 q2 (by omega) (by omega)
  obtain ⟨k, hk4⟩ : ∃ k, k = 4 := ⟨_, rfl⟩
  rw [← hk4] at R S HC IH RT ⊢
  have zE : ∀ w, (Go.sizeOf 97).run Tryz.prog w = .ok k w := by rw [hk4]; exact Tryz.sizeOf97
  have HK4 : Hid (k = 4) := hk4
  clear hk4
  have S0 : Aside (SWK enc k w0 blk off d w) := S
  clear S
  have c0 : ((m : Int) - (a : Int) == 1) = false := beq_eq_false_iff_ne.mpr (by omega)
  have c1 : ((b : Int) - (m : Int) == 1) = false := beq_eq_false_iff_ne.mpr (by omega)
  obtain ⟨mid, hmid⟩ : ∃ mid, (a + b) / 2 = mid := ⟨_, rfl⟩
  have hmz : ((a : Int) + (b : Int)) / 2 = (mid : Int) := by omega
  have hm1 : 2 * mid ≤ a + b := by omega
  have hm2 : a + b ≤ 2 * mid + 1 := by omega
  rw [hmid] at hbig
  clear hmid
  obtain ⟨n, hn⟩ : ∃ n, mid + m = n := ⟨_, rfl⟩
  have hnz : (mid : Int) + (m : Int) = (n : Int) := by omega
  have hn1 : mid + m ≤ n := by omega
  have hn2 : n ≤ mid + m := by omega
  clear hn
  obtain ⟨p, hp⟩ : ∃ p, n - 1 = p := ⟨_, rfl⟩
  have hpz : (n : Int) - 1 = (p : Int) := by omega
  have hp1 : p + 1 ≤ n := by omega
  have hp2 : n ≤ p + 1 := by omega
  clear hp
  have hbz : ¬ (mid : Int) < (m : Int) := by omega
  go_enter Tryz.func165, Tryz.ntmps165
  go_wp2
  go_loopg [20, 21, 23] (m - a) (fun kx s10 s11 s12 wr => ∃ (i j : Nat), s10 = .int .i64 i ∧ s11 = .int .i64 j ∧ a ≤ i ∧ i ≤ j ∧ j ≤ m ∧ j - i ≤ kx ∧ Aside (Least cf a b d → a < j) ∧ Aside (SWK enc k w0 blk off d wr))
  case atStart => exact ⟨a, m, rfl, rfl, by omega, by omega, by omega, by omega, fun _ => by omega, S0⟩
  case round =>
    clear S0
    obtain ⟨i, j, rfl, rfl, hmi, hij, hjb, hkx, hL, S1⟩ := hrel
    by_cases hlt : i < j
    · have hltz : (i : Int) < (j : Int) := by omega
      obtain ⟨h, hh⟩ : ∃ h, (i + j) / 2 = h := ⟨_, rfl⟩
      have hhz : ((i : Int) + (j : Int)) / 2 = (h : Int) := by omega
      have hih : i ≤ h := by omega
      have hhj : h < j := by omega
      clear hh
      obtain ⟨u, hu⟩ : ∃ u, p - h = u := ⟨_, rfl⟩
      have huz : (p : Int) - (h : Int) = (u : Int) := by omega
      have hu1 : u < b := by omega
      have hu2 : m ≤ u := by omega
      clear hu
      by_cases hv : cf d[u]! d[h]! < 0
      · have ea70 : (((u) : Nat) : Int).toNat = u := by omega
        have pa70 : (0 : Int) ≤ ((u : Nat) : Int) := by omega
        have ba70 : ((u : Nat) : Int) < (d.size : Int) := by omega
        have ra70 : IntKind.i64.wrap ((u : Nat) : Int) = ((u : Nat) : Int) := by rw [IntKind.wrap_i64]; omega
        have ec70 : (((h) : Nat) : Int).toNat = h := by omega
        have pc70 : (0 : Int) ≤ ((h : Nat) : Int) := by omega
        have bc70 : ((h : Nat) : Int) < (d.size : Int) := by omega
        have rc70 : IntKind.i64.wrap ((h : Nat) : Int) = ((h : Nat) : Int) := by rw [IntKind.wrap_i64]; omega
        obtain ⟨x70, hx70⟩ : ∃ x, x = d[u]! := ⟨_, rfl⟩
        obtain ⟨y70, hy70⟩ : ∃ x, x = d[h]! := ⟨_, rfl⟩
        have l70a := S1.out.ld R (by omega) Tryz.prog (u) (by omega)
        have l70b := S1.out.ld R (by omega) Tryz.prog (h) (by omega)
        rw [← hx70] at l70a
        rw [← hy70] at l70b
        have hc70 := S1.out.cmp HC.out (by omega) x70 y70
        have hv70 : cf x70 y70 < 0 := by rw [hx70, hy70]; exact hv
        have hd70 : decide (cf x70 y70 < 0) = true := decide_eq_true hv70
        clear hx70 hy70
        go_wp2_with fail
        go_quiet_grown (first | (go_at_fn g; refine Calls.grown_of (hc70 _ _)))
        have S3 : Aside (SWK enc k w0 blk off d (grow (wr.drewN nq) osq)) := S1.out.grown nq osq
        clear l70a l70b hc70 S1
        generalize grow (wr.drewN nq) osq = w3 at S3 ⊢
        clear nq osq
        go_wp2
        go_roundg (h - i)
        case measure => omega
        case rel =>
          refine ⟨i, h, rfl, by go_num, by omega, by omega, by omega, by omega, fun hl => ?_, S3⟩
          rcases Nat.lt_or_ge a h with q | q
          · exact q
          · have e : h = a := by omega
            rw [e] at hv
            exact absurd hv (hl u (by omega) (by omega))
      · have ea70 : (((u) : Nat) : Int).toNat = u := by omega
        have pa70 : (0 : Int) ≤ ((u : Nat) : Int) := by omega
        have ba70 : ((u : Nat) : Int) < (d.size : Int) := by omega
        have ra70 : IntKind.i64.wrap ((u : Nat) : Int) = ((u : Nat) : Int) := by rw [IntKind.wrap_i64]; omega
        have ec70 : (((h) : Nat) : Int).toNat = h := by omega
        have pc70 : (0 : Int) ≤ ((h : Nat) : Int) := by omega
        have bc70 : ((h : Nat) : Int) < (d.size : Int) := by omega
        have rc70 : IntKind.i64.wrap ((h : Nat) : Int) = ((h : Nat) : Int) := by rw [IntKind.wrap_i64]; omega
        obtain ⟨x70, hx70⟩ : ∃ x, x = d[u]! := ⟨_, rfl⟩
        obtain ⟨y70, hy70⟩ : ∃ x, x = d[h]! := ⟨_, rfl⟩
        have l70a := S1.out.ld R (by omega) Tryz.prog (u) (by omega)
        have l70b := S1.out.ld R (by omega) Tryz.prog (h) (by omega)
        rw [← hx70] at l70a
        rw [← hy70] at l70b
        have hc70 := S1.out.cmp HC.out (by omega) x70 y70
        have hv70 : ¬ cf x70 y70 < 0 := by rw [hx70, hy70]; exact hv
        have hd70 : decide (cf x70 y70 < 0) = false := decide_eq_false hv70
        clear hx70 hy70
        go_wp2_with fail
        go_quiet_grown (first | (go_at_fn g; refine Calls.grown_of (hc70 _ _)))
        have S3 : Aside (SWK enc k w0 blk off d (grow (wr.drewN nq) osq)) := S1.out.grown nq osq
        clear l70a l70b hc70 S1
        generalize grow (wr.drewN nq) osq = w3 at S3 ⊢
        clear nq osq
        go_wp2
        go_roundg (j - (h + 1))
        case measure => omega
        case rel => exact ⟨h + 1, j, by go_num, rfl, by omega, by omega, by omega, by omega, hL, S3⟩
    · have hltz : ¬ (i : Int) < (j : Int) := by omega
      have hA : Aside (Least cf a b d → a < i) := fun hl => by have := hL.out hl; omega
      clear hL
      have him : i ≤ m := by omega
      have himid : i ≤ mid := by omega
      obtain ⟨e, he⟩ : ∃ e, n - i = e := ⟨_, rfl⟩
      have hez : (n : Int) - (i : Int) = (e : Int) := by omega
      have he1 : e + i ≤ n := by omega
      have he2 : n ≤ e + i := by omega
      have he3 : e ≤ b := by omega
      clear he
      have hPa : Aside (PermIn a b d d) := permIn_refl d a b
      by_cases kP : i < m
      · have kQ : i < mid := by omega
        by_cases kA : a < i
        · by_cases kE : e < b
          · have z1 : (i : Int) < (m : Int) := by omega
            have z2 : (mid : Int) < (e : Int) := by omega
            have z3 : (m : Int) < (e : Int) := by omega
            have z4 : (i : Int) < (mid : Int) := by omega
            have z5 : (a : Int) < (i : Int) := by omega
            have z6 : (e : Int) < (b : Int) := by omega
            go_wp2_with fail
            refine (RT.out i m e d wr rfl S1.out (by omega) (by omega) (by omega)).mono ?_
            rintro _ w2 ⟨rfl, d2, hP2', S2'⟩
            have S2 : Aside (SWK enc k w0 blk off d2 w2) := S2'
            have hPa2 : Aside (PermIn a b d d2) := permIn_mono d d2 i e a b (by omega) (by omega) (by omega) hP2'
            have hH2 : Aside (Least cf a b d → d2[a]! = d[a]!) := fun hl => hP2'.2.1 a (Or.inl (hA.out hl))
            have hs2 : d2.size = d.size := hP2'.1
            clear S2' hP2'
            go_wp2_with fail
            refine (IH.out a i mid d2 w2 (by omega) hs2 S2.out (by omega) (by omega) (by omega)).mono ?_
            rintro _ w3 ⟨rfl, d3, hP3', S3', hL3'⟩
            have S3 : Aside (SWK enc k w0 blk off d3 w3) := S3'
            have hPa3 : Aside (PermIn a b d d3) := permIn_trans _ _ _ _ _ hPa2.out (permIn_mono d2 d3 a mid a b (by omega) (by omega) (by omega) hP3')
            have hH3 : Aside (Least cf a b d → d3[a]! = d[a]!) := fun hl => (hL3' ((hl.perm hPa2.out (hH2.out hl) h5).sub (by omega))).trans (hH2.out hl)
            have hs3 : d3.size = d.size := hP3'.1.trans hs2
            clear S3' hP3' hL3'
            go_wp2_with fail
            refine (IH.out mid e b d3 w3 (by omega) hs3 S3.out (by omega) (by omega) (by omega)).mono ?_
            rintro _ w4 ⟨rfl, d4, hP4', S4', hL4'⟩
            have S4 : Aside (SWK enc k w0 blk off d4 w4) := S4'
            have hPa4 : Aside (PermIn a b d d4) := permIn_trans _ _ _ _ _ hPa3.out (permIn_mono d3 d4 mid b a b (by omega) (by omega) (by omega) hP4')
            have hH4 : Aside (Least cf a b d → d4[a]! = d[a]!) := fun hl => (hP4'.2.1 a (Or.inl (by omega))).trans (hH3.out hl)
            clear S4' hP4' hL4'
            go_wp2_with fail
            go_end0
            exact ⟨rfl, d4, hPa4.out, HK4.out ▸ S4.out, hH4.out⟩
          · have z1 : (i : Int) < (m : Int) := by omega
            have z2 : (mid : Int) < (e : Int) := by omega
            have z3 : (m : Int) < (e : Int) := by omega
            have z4 : (i : Int) < (mid : Int) := by omega
            have z5 : (a : Int) < (i : Int) := by omega
            have z6 : ¬ (e : Int) < (b : Int) := by omega
            go_wp2_with fail
            refine (RT.out i m e d wr rfl S1.out (by omega) (by omega) (by omega)).mono ?_
            rintro _ w2 ⟨rfl, d2, hP2', S2'⟩
            have S2 : Aside (SWK enc k w0 blk off d2 w2) := S2'
            have hPa2 : Aside (PermIn a b d d2) := permIn_mono d d2 i e a b (by omega) (by omega) (by omega) hP2'
            have hH2 : Aside (Least cf a b d → d2[a]! = d[a]!) := fun hl => hP2'.2.1 a (Or.inl (hA.out hl))
            have hs2 : d2.size = d.size := hP2'.1
            clear S2' hP2'
            go_wp2_with fail
            refine (IH.out a i mid d2 w2 (by omega) hs2 S2.out (by omega) (by omega) (by omega)).mono ?_
            rintro _ w3 ⟨rfl, d3, hP3', S3', hL3'⟩
            have S3 : Aside (SWK enc k w0 blk off d3 w3) := S3'
            have hPa3 : Aside (PermIn a b d d3) := permIn_trans _ _ _ _ _ hPa2.out (permIn_mono d2 d3 a mid a b (by omega) (by omega) (by omega) hP3')
            have hH3 : Aside (Least cf a b d → d3[a]! = d[a]!) := fun hl => (hL3' ((hl.perm hPa2.out (hH2.out hl) h5).sub (by omega))).trans (hH2.out hl)
            have hs3 : d3.size = d.size := hP3'.1.trans hs2
            clear S3' hP3' hL3'
            go_wp2_with fail
            go_end0
            exact ⟨rfl, d3, hPa3.out, HK4.out ▸ S3.out, hH3.out⟩
        · by_cases kE : e < b
          · have z1 : (i : Int) < (m : Int) := by omega
            have z2 : (mid : Int) < (e : Int) := by omega
            have z3 : (m : Int) < (e : Int) := by omega
            have z4 : (i : Int) < (mid : Int) := by omega
            have z5 : ¬ (a : Int) < (i : Int) := by omega
            have z6 : (e : Int) < (b : Int) := by omega
            go_wp2_with fail
            refine (RT.out i m e d wr rfl S1.out (by omega) (by omega) (by omega)).mono ?_
            rintro _ w2 ⟨rfl, d2, hP2', S2'⟩
            have S2 : Aside (SWK enc k w0 blk off d2 w2) := S2'
            have hPa2 : Aside (PermIn a b d d2) := permIn_mono d d2 i e a b (by omega) (by omega) (by omega) hP2'
            have hH2 : Aside (Least cf a b d → d2[a]! = d[a]!) := fun hl => hP2'.2.1 a (Or.inl (hA.out hl))
            have hs2 : d2.size = d.size := hP2'.1
            clear S2' hP2'
            go_wp2_with fail
            refine (IH.out mid e b d2 w2 (by omega) hs2 S2.out (by omega) (by omega) (by omega)).mono ?_
            rintro _ w4 ⟨rfl, d4, hP4', S4', hL4'⟩
            have S4 : Aside (SWK enc k w0 blk off d4 w4) := S4'
            have hPa4 : Aside (PermIn a b d d4) := permIn_trans _ _ _ _ _ hPa2.out (permIn_mono d2 d4 mid b a b (by omega) (by omega) (by omega) hP4')
            have hH4 : Aside (Least cf a b d → d4[a]! = d[a]!) := fun hl => (hP4'.2.1 a (Or.inl (by omega))).trans (hH2.out hl)
            clear S4' hP4' hL4'
            go_wp2_with fail
            go_end0
            exact ⟨rfl, d4, hPa4.out, HK4.out ▸ S4.out, hH4.out⟩
          · have z1 : (i : Int) < (m : Int) := by omega
            have z2 : (mid : Int) < (e : Int) := by omega
            have z3 : (m : Int) < (e : Int) := by omega
            have z4 : (i : Int) < (mid : Int) := by omega
            have z5 : ¬ (a : Int) < (i : Int) := by omega
            have z6 : ¬ (e : Int) < (b : Int) := by omega
            go_wp2_with fail
            refine (RT.out i m e d wr rfl S1.out (by omega) (by omega) (by omega)).mono ?_
            rintro _ w2 ⟨rfl, d2, hP2', S2'⟩
            have S2 : Aside (SWK enc k w0 blk off d2 w2) := S2'
            have hPa2 : Aside (PermIn a b d d2) := permIn_mono d d2 i e a b (by omega) (by omega) (by omega) hP2'
            have hH2 : Aside (Least cf a b d → d2[a]! = d[a]!) := fun hl => hP2'.2.1 a (Or.inl (hA.out hl))
            have hs2 : d2.size = d.size := hP2'.1
            clear S2' hP2'
            go_wp2_with fail
            go_end0
            exact ⟨rfl, d2, hPa2.out, HK4.out ▸ S2.out, hH2.out⟩
      · by_cases kQ : i < mid
        · have kA : a < i := by omega
          have kE : e < b := by omega
          have z1 : ¬ (i : Int) < (m : Int) := by omega
          have z2 : ¬ (mid : Int) < (e : Int) := by omega
          have z3 : (m : Int) < (e : Int) := by omega
          have z4 : (i : Int) < (mid : Int) := by omega
          have z5 : (a : Int) < (i : Int) := by omega
          have z6 : (e : Int) < (b : Int) := by omega
          go_wp2_with fail
          refine (IH.out a i mid d wr (by omega) rfl S1.out (by omega) (by omega) (by omega)).mono ?_
          rintro _ w3 ⟨rfl, d3, hP3', S3', hL3'⟩
          have S3 : Aside (SWK enc k w0 blk off d3 w3) := S3'
          have hPa3 : Aside (PermIn a b d d3) := permIn_trans _ _ _ _ _ hPa.out (permIn_mono d d3 a mid a b (by omega) (by omega) (by omega) hP3')
          have hH3 : Aside (Least cf a b d → d3[a]! = d[a]!) := fun hl => (hL3' ((hl.perm hPa.out rfl h5).sub (by omega))).trans rfl
          have hs3 : d3.size = d.size := hP3'.1.trans rfl
          clear S3' hP3' hL3'
          go_wp2_with fail
          go_end0
          exact ⟨rfl, d3, hPa3.out, HK4.out ▸ S3.out, hH3.out⟩
        · have kA : a < i := by omega
          have kE : e < b := by omega
          have z1 : ¬ (i : Int) < (m : Int) := by omega
          have z2 : ¬ (mid : Int) < (e : Int) := by omega
          have z3 : ¬ (m : Int) < (e : Int) := by omega
          have z4 : ¬ (i : Int) < (mid : Int) := by omega
          have z5 : (a : Int) < (i : Int) := by omega
          have z6 : (e : Int) < (b : Int) := by omega
          go_wp2_with fail
          go_end0
          exact ⟨rfl, d, hPa.out, HK4.out ▸ S1.out, (fun _ => rfl)⟩

/-- symMerge: the row is a permutation of what it was; what is least at its first place stays. -/
theorem symMerge_calls (enc : α → List Value) (cf : α → α → Int) (g : Nat) (cb : Array Value) (blk off cap sz : Nat) (d0 : Array α) (w0 : World)
    (eg : ∀ args w, (callFunc g args).run Tryz.prog w = .ok (.enter g args) w) (HC : Aside (CmpLays Tryz.prog g cb enc 4 cf blk off d0.size w0))
    (R : RowK enc 4 w0 blk off d0) (hs : d0.size = sz) (hsz : sz < 4611686018427387904) : ∀ (N a m b : Nat) (d : Array α) (w : World), b - a ≤ N → d.size = sz → SWK enc 4 w0 blk off d w → a < m → m < b → b ≤ sz →
    Calls Tryz.prog 165 #[.slice (some ⟨blk, off, none⟩) sz cap, .int .i64 a, .int .i64 m, .int .i64 b, .func (.func g) #[] cb] w fun e w' => e = .returned (.tuple #[]) ∧ ∃ d', PermIn a b d d' ∧ SWK enc 4 w0 blk off d' w' ∧ (Least cf a b d → d'[a]! = d[a]!) := by
  intro N
  induction N with
  | zero => intros; omega
  | succ N IH =>
    intro a m b d w hN hd S h1 h2 h3
    subst hd
    by_cases q1 : m = a + 1
    · exact symMerge_one enc cf g cb blk off cap a m b d0 d w0 w eg HC R hs S q1 h2 h3 hsz
    by_cases q2 : b = m + 1
    · exact symMerge_last enc cf g cb blk off cap a m b d0 d w0 w eg HC R hs S (by omega) q2 h3 hsz
    by_cases q3 : (a + b) / 2 < m
    · exact symMerge_high enc cf g cb blk off cap a m b d0 d w0 w eg HC R hs S (by omega) (by omega) q3 (fun a' m' b' dk wr hlt hdk hS p1 p2 p3 => IH a' m' b' dk wr (by omega) hdk hS p1 p2 p3) h3 hsz
    · exact symMerge_low enc cf g cb blk off cap a m b d0 d w0 w eg HC R hs S (by omega) (by omega) (by omega) (fun a' m' b' dk wr hlt hdk hS p1 p2 p3 => IH a' m' b' dk wr (by omega) hdk hS p1 p2 p3) h3 hsz
end Go.Proofs.YtbilegkffooioaaGreatDoor
/-
  view.Sees: the orders of what is seen (the closures Sees$3, Sees$4), cmp.Or.
-/
namespace Go.Proofs.YtbilegkffooioaaGreatDoor
open Go.Shelf Go.RowKit Go.Lib Go.Sort

/-- A thing that is: how far, its number, its sort, its place. -/
structure Seen where
  far : Int
  id : Int
  sort : Int
  place : Int
deriving Inhabited

def encSeen (x : Seen) : List Value := [.int .i64 x.far, .int .i64 x.id, .int .i64 x.sort, .int .i64 x.place]

def orCmp (a b c : Int) : Int := if a ≠ 0 then a else if b ≠ 0 then b else c

def cfNear (x y : Seen) : Int := orCmp (Lib.compareInt x.far y.far) (Lib.compareInt x.id y.id) (Lib.compareInt x.sort y.sort)

def cfPlace (x y : Seen) : Int := Lib.compareInt x.place y.place

set_option maxHeartbeats 4000000 in
set_option maxRecDepth 1000000 in
theorem or_calls (W : World) (blk : Nat) (a b c : Int) (h0 : W.cell? ⟨blk, 0, none⟩ = some (.int .i64 a)) (h1 : W.cell? ⟨blk, 1, none⟩ = some (.int .i64 b)) (h2 : W.cell? ⟨blk, 2, none⟩ = some (.int .i64 c)) :
    Calls Tryz.prog 40 #[.slice (some ⟨blk, 0, none⟩) 3 3] W fun e w' => e = .returned (.int .i64 (orCmp a b c)) ∧ w' = W := by
  go_enter Tryz.func40, Tryz.ntmps40
  by_cases ha : a = 0
  · subst ha
    by_cases hb : b = 0
    · subst hb
      by_cases hc : c = 0
      · subst hc
        go_wp2
        refine wp_loop_rounds 4 ?_
        rw [rounds_succ]
        go_wp2
        rw [rounds_succ]
        go_wp2
        rw [rounds_succ]
        go_wp2
        rw [rounds_succ]
        go_wp2
        go_ret
        exact ⟨rfl, rfl⟩
      · go_wp2
        refine wp_loop_rounds 4 ?_
        rw [rounds_succ]
        go_wp2
        rw [rounds_succ]
        go_wp2
        rw [rounds_succ]
        go_wp2
        go_ret
        exact ⟨by simp [orCmp], rfl⟩
    · go_wp2
      refine wp_loop_rounds 4 ?_
      rw [rounds_succ]
      go_wp2
      rw [rounds_succ]
      go_wp2
      go_ret
      exact ⟨by simp [orCmp, hb], rfl⟩
  · go_wp2
    refine wp_loop_rounds 4 ?_
    rw [rounds_succ]
    go_wp2
    go_ret
    exact ⟨by simp [orCmp, ha], rfl⟩

set_option maxHeartbeats 4000000 in
set_option maxRecDepth 1000000 in
theorem near_calls (x y : Seen) (W : World) : Calls Tryz.prog 39 #[.agg (encSeen x).toArray, .agg (encSeen y).toArray] W fun e w' => e = .returned (.int .i64 (cfNear x y)) ∧ ∃ q os', w' = grow (W.drewN q) os' := by
  have h1 : ∀ a b W', Calls Tryz.prog 41 _ _ _ := fun a b W' => AnyG.cmp_Compare_int Tryz.cmpLong a b W'
  have h2 : ∀ a b W', Calls Tryz.prog 42 _ _ _ := fun a b W' => AnyG.cmp_Compare_int Tryz.cmpInt a b W'
  unfold encSeen cfNear
  go_enter Tryz.func39, Tryz.ntmps39
  go_wp2_with fail
  go_region_held3 (fun w' => w'.cell? ⟨W.heap.size, 0, none⟩ = some (.int .i64 x.far) ∧ w'.cell? ⟨W.heap.size, 1, none⟩ = some (.int .i64 x.id) ∧ w'.cell? ⟨W.heap.size, 2, none⟩ = some (.int .i64 x.sort) ∧
    w'.cell? ⟨W.heap.size + 1, 0, none⟩ = some (.int .i64 y.far) ∧ w'.cell? ⟨W.heap.size + 1, 1, none⟩ = some (.int .i64 y.id) ∧ w'.cell? ⟨W.heap.size + 1, 2, none⟩ = some (.int .i64 y.sort)) (go_keep)
    (first | (go_at_call 41; refine (h1 _ _ _).mono ?_; rintro e w' ⟨rfl, rfl⟩) | (go_at_call 42; refine (h2 _ _ _).mono ?_; rintro e w' ⟨rfl, rfl⟩) | (go_at_call 40; refine (or_calls _ _ (Lib.compareInt x.far y.far) (Lib.compareInt x.id y.id) (Lib.compareInt x.sort y.sort) (by go_simp) (by go_simp) (by go_simp)).mono ?_; rintro e w' ⟨rfl, rfl⟩))
  go_wp2
  go_ret
  exact ⟨rfl, 1, _, by rw [alloc_eq_grow, alloc_eq_grow, alloc_eq_grow, grow_grow, grow_grow]; rfl⟩

set_option maxHeartbeats 4000000 in
set_option maxRecDepth 1000000 in
theorem place_calls (x y : Seen) (W : World) : Calls Tryz.prog 44 #[.agg (encSeen x).toArray, .agg (encSeen y).toArray] W fun e w' => e = .returned (.int .i64 (cfPlace x y)) ∧ ∃ q os', w' = grow (W.drewN q) os' := by
  have hI : ∀ W', Calls Tryz.prog 42 _ _ _ := fun W' => AnyG.cmp_Compare_int Tryz.cmpInt x.place y.place W'
  unfold encSeen cfPlace
  generalize Lib.compareInt x.place y.place = r at hI ⊢
  go_enter Tryz.func44, Tryz.ntmps44
  go_wp2_with (go_at_call 42; refine (hI _).mono ?_; rintro e w' ⟨rfl, rfl⟩)
  go_ret
  exact ⟨rfl, 0, _, by rw [alloc_eq_grow, alloc_eq_grow, grow_grow]; rfl⟩

theorem near_lays (blk off size : Nat) (w : World) : CmpLays Tryz.prog 39 #[] encSeen 4 cfNear blk off size w := fun _ _ _ _ x y => near_calls x y _

theorem place_lays (blk off size : Nat) (w : World) : CmpLays Tryz.prog 44 #[] encSeen 4 cfPlace blk off size w := fun _ _ _ _ x y => place_calls x y _

theorem compareInt_neg (a b : Int) : Lib.compareInt a b < 0 ↔ a < b := by
  unfold Lib.compareInt
  by_cases h1 : a < b
  · simp [h1]
  · by_cases h2 : b < a <;> simp [h1, h2]

theorem compareInt_zero (a b : Int) : Lib.compareInt a b = 0 ↔ a = b := by
  unfold Lib.compareInt
  by_cases h1 : a < b
  · simp [h1]; omega
  · by_cases h2 : b < a
    · simp [h1, h2]; omega
    · simp [h1, h2]; omega

theorem cfNear_neg (x y : Seen) : cfNear x y < 0 ↔ x.far < y.far ∨ x.far = y.far ∧ (x.id < y.id ∨ x.id = y.id ∧ x.sort < y.sort) := by
  unfold cfNear orCmp
  have a1 := compareInt_neg x.far y.far
  have a2 := compareInt_zero x.far y.far
  have b1 := compareInt_neg x.id y.id
  have b2 := compareInt_zero x.id y.id
  have c1 := compareInt_neg x.sort y.sort
  by_cases h : Lib.compareInt x.far y.far = 0
  · rw [if_neg (by simp [h])]
    by_cases h' : Lib.compareInt x.id y.id = 0
    · rw [if_neg (by simp [h'])]
      rw [a2] at h
      rw [b2] at h'
      rw [c1]
      omega
    · rw [if_pos (by simp [h'])]
      rw [a2] at h
      rw [b2] at h'
      rw [b1]
      omega
  · rw [if_pos (by simp [h])]
    rw [a2] at h
    rw [a1]
    omega

theorem swo_near : SWO (ltOf cfNear) where
  irrefl x := by unfold ltOf; rw [decide_eq_false_iff_not, cfNear_neg]; omega
  trans x y z h1 h2 := by unfold ltOf at *; rw [decide_eq_true_eq, cfNear_neg] at *; omega
  ntrans x y z h1 h2 := by unfold ltOf at *; rw [decide_eq_false_iff_not, cfNear_neg] at *; omega

theorem swo_place : SWO (ltOf cfPlace) where
  irrefl x := by unfold ltOf cfPlace; rw [decide_eq_false_iff_not, compareInt_neg]; omega
  trans x y z h1 h2 := by unfold ltOf cfPlace at *; rw [decide_eq_true_eq, compareInt_neg] at *; omega
  ntrans x y z h1 h2 := by unfold ltOf cfPlace at *; rw [decide_eq_false_iff_not, compareInt_neg] at *; omega

theorem encSeen_len (x : Seen) : (encSeen x).length = 4 := rfl
theorem encSeen_one (x : Seen) : ∀ v ∈ encSeen x, v.oneCell' = true := fun v hv => by
  simp [encSeen] at hv
  rcases hv with rfl | rfl | rfl | rfl <;> rfl
end Go.Proofs.YtbilegkffooioaaGreatDoor
/-
  view.read's helpers: a number's place behind all, a row put behind all, fields copied.
-/
namespace Go.Proofs.YtbilegkffooioaaGreatDoor
open Go.RowKit Go.Shelf Go.Lib Go.Sort

set_option maxHeartbeats 2000000 in
set_option maxRecDepth 100000 in
theorem cmpRow_calls (v : Rv) (id : Int) (w : World) (h : v.id < id) : Calls Tryz.prog 114 #[.agg v.cl.toArray, .int .i64 id] w fun e w' => e = .returned (.int .i64 (-1)) ∧ w.grownBy w' none := by
  have hI : Hid (∀ W', Calls Tryz.prog 42 #[.int .i64 v.id, .int .i64 id] W' fun e w' => e = .returned (.int .i64 (-1)) ∧ w' = W') := Lib.hid fun W' => by
    have := AnyG.cmp_Compare_int (P := Tryz.prog) (ρ := Tryz.cmpInt_ren) Tryz.cmpInt v.id id W'
    have e : Lib.compareInt v.id id = -1 := by unfold Lib.compareInt; simp [h]
    rw [e] at this
    exact this
  unfold Rv.cl
  clear h
  go_enter Tryz.func114, Tryz.ntmps114
  go_wp2_with fail
  refine (hI.out _).mono ?_
  rintro e w1 ⟨rfl, rfl⟩
  go_wp2_with fail
  go_ret
  exact ⟨rfl, World.grownBy_alloc _ _ none⟩

set_option maxHeartbeats 4000000 in
set_option maxRecDepth 1000000 in
/-- **slices.BinarySearchFunc**, where all come ahead. -/
theorem behind_calls (n c : Nat) (A : Option Addr) (id : Int) (vs : List Rv) (hn : n ≤ 1000) (w : World) (hr : Rg 2 Rv.cl w w.heap.size A n vs) (hlt : ∀ v ∈ vs, v.id < id) :
    Calls Tryz.prog 113 #[.slice A n c, .int .i64 id, .func (.func 114) #[] #[]] w fun e w' => e = .returned (.tuple #[.int .i64 n, .bool false]) ∧ w.grownBy w' none := by
  have HR := Lib.hid hr
  have HL := Lib.hid hlt
  clear hr hlt
  go_enter Tryz.func113, Tryz.ntmps113
  go_wp2_with fail
  go_loopg [9, 10] n (fun kx s9 s10 wr => ∃ i : Nat, s9 = .int .i64 i ∧ s10 = .int .i64 n ∧ i ≤ n ∧ n - i ≤ kx ∧ Hid (w.grownBy wr none))
  case atStart => exact ⟨0, rfl, rfl, by omega, by omega, World.grownBy.refl w none⟩
  case round =>
    obtain ⟨i, rfl, rfl, hi, hix, HG⟩ := hrel
    by_cases hlt : i < n
    · have hii : (i : Int) < (n : Int) := by omega
      obtain ⟨h, hh⟩ : ∃ h : Nat, ((i : Int) + (n : Int)) / 2 = (h : Int) := ⟨(i + n) / 2, by omega⟩
      have hhn : h < n := by omega
      have hih : i ≤ h := by omega
      obtain ⟨b, off, v, rfl, hb, hx, hr⟩ := (HR.out.grown HG.out (Nat.le_refl _) (by simp)).at_ Rv.cl_len hhn
      have HC := Lib.hid (fun W => cmpRow_calls v id W (HL.out v (List.mem_of_getElem? hx)))
      unfold Rv.cl at HC
      obtain ⟨c0, c1⟩ := row_cells hr
      have hbh : (h : Int) < (n : Int) := by omega
      clear hb hx hr
      go_wp2_with fail
      refine (HC.out _).mono ?_
      rintro e w1 ⟨rfl, hg⟩
      have HG1 := Lib.hid (HG.out.trans hg)
      clear hg
      go_wp2_with fail
      go_roundg (n - (h + 1))
      case measure => omega
      case rel => exact ⟨h + 1, by go_num, rfl, by omega, by omega, HG1⟩
    · obtain rfl : i = n := by omega
      go_wp2
      refine bodyPost_ret (results_tmp2 rfl _ _ _) rfl ?_
      exact ⟨rfl, HG.out⟩

/-- **slices.Clone** of fields. -/
theorem cloneF_calls (g n c : Nat) (zs : List Int) (w : World) (hz : zs.length = n) (hn : n ≤ 1000) (h0 : 0 < n) (h : Blk w g 2 (ints zs).toArray) :
    Calls Tryz.prog 111 #[.slice (some ⟨g, 0, none⟩) n c] w fun e w' => ∃ g' c', e = .returned (.slice (some ⟨g', 0, none⟩) n c') ∧ w.grownBy w' none ∧ w.heap.size ≤ g' ∧ g' < w'.heap.size ∧ w'.ownsRow w.heap.size 2 1 (.slice (some ⟨g', 0, none⟩) n c') n (ints zs) := by
  refine (AnyG.slices_Clone_int (P := Tryz.prog) (ρ := Tryz.cloneLong_ren) Tryz.cloneLong g 0 n c zs w (by omega) (by omega) (fun j hj => ?_)).mono ?_
  · rw [Nat.zero_add, h.cell j]
    simp [ints, hj]
  · rintro e w' ⟨v', rfl, ho, _, hb⟩
    rw [List.take_of_length_le (by omega)] at ho
    obtain ⟨g', c', rfl, h1, h2⟩ := ho.form h0
    exact ⟨g', c', rfl, grown_below hb, h1, h2, ho⟩

/-- What Insert leaves. -/
def InsPost (base k c : Nat) (A : Option Addr) (vs : List Rv) (r : Rv) (w : World) (e : Ending) (w' : World) : Prop :=
  ∃ A' c', e = .returned (.slice A' (k + 1) c') ∧ w'.ownsRow base 89 2 (.slice A' (k + 1) c') (k + 1) ((vs ++ [r]).flatMap Rv.cl) ∧ w.grownBy w' (Value.slice A k c).ownBlock ∧
    ((Value.slice A' (k + 1) c').ownBlock = (Value.slice A k c).ownBlock ∨ (Value.slice A' (k + 1) c').ownBlock = some w.heap.size)
set_option maxHeartbeats 4000000 in
set_option maxRecDepth 1000000 in
/-- **slices.Insert** behind all. -/
theorem insert_calls (base k c g1 : Nat) (A : Option Addr) (vs : List Rv) (r : Rv) (w : World) (ho : w.ownsRow base 89 2 (.slice A k c) k (vs.flatMap Rv.cl)) (hk : k ≤ 1000) (hr : Rg 2 Rv.cl w w.heap.size (some ⟨g1, 0, none⟩) 1 [r]) (hbase : base ≤ w.heap.size) :
    Calls Tryz.prog 115 #[.slice A k c, .int .i64 k, .slice (some ⟨g1, 0, none⟩) 1 1] w (InsPost base k c A vs r w) := by
  have hcap : k ≤ c := by
    rcases ho.2 with ⟨hv, h0⟩ | ⟨g', cap', cur, hv, hb, hh, hn, hm, hs, ht⟩
    · omega
    · injection hv with h1 h2 h3; omega
  have HO := Lib.hid ho
  have HR := Lib.hid hr
  have hkc : (k : Int) ≤ (c : Int) := by omega
  clear ho hr
  by_cases hck : k = c
  · subst hck
    go_enter Tryz.func115, Tryz.ntmps115
    go_wp2_with (at_builtin; refine wpList_append_rg rfl (.tmp 23) (.tmp 24) 85 rfl base 89 (.agg #[.int .i64 0, .slice none 0 0]) 2 32 Rv.cl_len Tryz.underlying85 Tryz.info89 rfl (by decide) (.slice A k k) k vs rfl HO.out _ _ 1 1 [r] rfl HR.out (Rv.one _) (k + 1) rfl (by simp only [maxLen]; omega) (by omega) hbase ?_; intro A2 c2 w4 hown hgrow hat; have H1 := Lib.hid hown; have H2 := Lib.hid hgrow; have H3 := Lib.hid hat; clear hown hgrow hat)
    go_ret
    exact ⟨A2, c2, rfl, H1.out, H2.out, H3.out⟩
  · have hck2 : ¬ ((k : Int) = (c : Int)) := by omega
    have hck3 : ¬ (k = c) := hck
    go_enter Tryz.func115, Tryz.ntmps115
    go_wp2_with (at_builtin; refine wpList_append_rg rfl (.tmp 23) (.tmp 24) 85 rfl base 89 (.agg #[.int .i64 0, .slice none 0 0]) 2 32 Rv.cl_len Tryz.underlying85 Tryz.info89 rfl (by decide) (.slice A k c) k vs rfl HO.out _ _ 1 1 [r] rfl HR.out (Rv.one _) (k + 1) rfl (by simp only [maxLen]; omega) (by omega) hbase ?_; intro A2 c2 w4 hown hgrow hat; have H1 := Lib.hid hown; have H2 := Lib.hid hgrow; have H3 := Lib.hid hat; clear hown hgrow hat)
    go_ret
    exact ⟨A2, c2, rfl, H1.out, H2.out, H3.out⟩
end Go.Proofs.YtbilegkffooioaaGreatDoor
/-
  view.write's helpers: numbers that ascend are sorted already; what the writer leaves.
-/
namespace Go.Proofs.YtbilegkffooioaaGreatDoor
open Go.RowKit Go.Shelf Go.Sort

theorem ids_holds {w : World} {base n c g : Nat} {zs : List Int} (h : w.ownsRow base 3 1 (.slice (some ⟨g, 0, none⟩) n c) n (zs.flatMap icl)) : Holds (Value.int .i64) w g 0 zs.toArray := by
  intro t ht
  have ht2 : t < zs.length := by simpa using ht
  have hx : (zs.flatMap icl)[t]? = some (.int .i64 zs.toArray[t]!) := by
    have := flat_at icl_len zs t zs[t] (List.getElem?_eq_getElem ht2) 0 (.int .i64 zs[t]) rfl
    rw [Nat.mul_one, Nat.add_zero] at this
    rw [this]; simp [ht2]
  refine ⟨?_, ?_⟩
  · have := h.cells (g := g) rfl t _ hx
    rwa [Addr.add_lit] at this
  · rcases h.2 with ⟨hv, _⟩ | ⟨g', cap', cur, hv, hb, hh, hn, hm, hs, ht⟩
    · cases hv
    · injection hv with h1 h2 h3
      injection h1 with h1
      injection h1 with h1
      subst h1
      exact (show Blk w g 3 cur from hh).free _
theorem ahead_grown (w : World) (n : Nat) (os : Array Obj) : w.grownBy (grow (Sort.ahead w n) os) none :=
  ⟨rfl, rfl, rfl, by show w.heap.size ≤ (w.heap ++ os).size; rw [Array.size_append]; omega, fun k hk _ => heap_grow_old (Sort.ahead w n) os hk⟩
theorem sortIds_calls (base n c : Nat) (A : Option Addr) (zs : List Int) (w : World) (h : w.ownsRow base 3 1 (.slice A n c) n (zs.flatMap icl)) (hz : zs.length = n) (hn : n ≤ 1000000) (hs : zs.Pairwise (· < ·)) :
    Calls Tryz.prog 101 #[.slice A n c] w fun e w' => e = .returned (.tuple #[]) ∧ w.grownBy w' none := by
  rcases Nat.eq_zero_or_pos n with rfl | hpos
  · exact (calls_of_every_depth fun D => AnyS.slices_Sort_int_none_in Tryz.sortInts D A c w).mono fun e w' ⟨he, hw⟩ => ⟨he, by rw [hw]; exact World.grownBy.refl w _⟩
  · obtain ⟨g, cap, hv, hb, hg⟩ := h.form hpos
    injection hv with h1 h2 h3
    subst h1
    have hH := ids_holds h
    subst hz
    refine (Any.slices_Sort_int Tryz.sortInts g 0 c zs w hH hg (by omega)).mono ?_
    rintro e w' ⟨rfl, m, os, rfl⟩
    refine ⟨rfl, ?_⟩
    have e1 : zs.mergeSort (fun x y => decide (x ≤ y)) = zs := List.mergeSort_of_pairwise (hs.imp fun h => by simp; omega)
    rw [e1, putRow_self _ _ _ _ _ (show Holds (Value.int .i64) (Sort.ahead w m) g 0 zs.toArray from hH)]
    exact ahead_grown w m os
theorem compactIds_calls (base n c : Nat) (A : Option Addr) (zs : List Int) (w : World) (h : w.ownsRow base 3 1 (.slice A n c) n (zs.flatMap icl)) (hz : zs.length = n) (hn : n ≤ 1000000) (hs : zs.Pairwise (· < ·)) :
    Calls Tryz.prog 102 #[.slice A n c] w fun e w' => e = .returned (.slice A n c) ∧ w.grownBy w' none := by
  rcases Nat.eq_zero_or_pos n with rfl | hpos
  · exact (Any.slices_Compact_int_empty Tryz.compactInts A c w).mono fun e w' ⟨he, hw⟩ => ⟨he, by rw [hw]; exact World.grownBy.refl w _⟩
  · obtain ⟨g, cap, hv, hb, hg⟩ := h.form hpos
    injection hv with h1 h2 h3
    subst h1
    have hH := ids_holds h
    have hcap : n ≤ c := by
      rcases h.2 with ⟨hv, _⟩ | ⟨g', cap', cur, hv, hb, hh, hn, hm, hs, ht⟩
      · cases hv
      · injection hv with h1 h2 h3
        omega
    subst hz
    have e1 : Lib.compact zs = zs := Lib.compact_all zs fun j hj => by
      rcases Nat.eq_zero_or_pos j with rfl | hj0
      · exact Lib.keeps_lt_one _ 0 (by omega)
      · have := List.pairwise_iff_getElem.1 hs (j - 1) j (by omega) hj (by omega)
        unfold Lib.keeps
        have e2 : zs.toArray[j]! = zs[j] := by simp [hj]
        have e3 : zs.toArray[j - 1]! = zs[j - 1] := by rw [getElem!_pos zs.toArray (j - 1) (by simp; omega)]; simp
        rw [e2, e3]
        simp
        omega
    refine (Any.slices_Compact_int Tryz.compactInts g 0 c zs w hH (by omega) hcap).mono ?_
    rw [e1]
    rintro e w' ⟨rfl, q, rfl⟩
    refine ⟨rfl, ?_⟩
    simp only [Nat.sub_self, List.replicate_zero, List.append_nil]
    rw [putRow_self _ _ _ _ _ (show Holds (Value.int .i64) (Sort.ahead w q) g 0 zs.toArray from hH)]
    exact grown_drawn (World.grownBy.refl w none) q
end Go.Proofs.YtbilegkffooioaaGreatDoor
/-
  view.write: what lies in memory while it runs.
-/
namespace Go.Proofs.YtbilegkffooioaaGreatDoor
open Go.RowKit

/-- Rows as they lie, in blocks of [lo, hi). -/
structure Rws (w : World) (lo hi : Nat) (A : Option Addr) (n : Nat) (vs : List Rv) : Prop where
  rg : Rg 2 Rv.cl w hi A n vs
  lo_ : ∀ ad, A = some ad → lo ≤ ad.block
  fl : ∀ v ∈ vs, ∃ g, v.A = some ⟨g, 0, none⟩ ∧ lo ≤ g ∧ g < hi ∧ ∀ j u, (ints v.fields)[j]? = some u → w.cell? ⟨g, 0 + j, none⟩ = some u
theorem RowsAt.rws {w : World} {lo n : Nat} {A : Option Addr} {rs : List Rw} (h : RowsAt w lo A n rs) : ∃ vs, vs.map Rv.row = rs ∧ Rws w lo w.heap.size A n vs := by
  obtain ⟨vs, h1, h2, h3, h4⟩ := h
  refine ⟨vs, h1, h2, h4, fun v hv => ?_⟩
  obtain ⟨g, a, b, c, _, d⟩ := h3 v hv
  exact ⟨g, a, b, c, d⟩
theorem Rws.keep {w w' : World} {lo hi n : Nat} {A : Option Addr} {vs : List Rv} (h : Rws w lo hi A n vs) (hk : ∀ p : Addr, lo ≤ p.block → p.block < hi → w'.cell? p = w.cell? p) : Rws w' lo hi A n vs := by
  refine ⟨⟨h.rg.1, fun hn => ?_⟩, h.lo_, fun v hv => ?_⟩
  · obtain ⟨b, off, e, hb, hc⟩ := h.rg.2 hn
    exact ⟨b, off, e, hb, fun j u hu => (hk ⟨b, off + j, none⟩ (h.lo_ ⟨b, off, none⟩ e) hb).trans (hc j u hu)⟩
  · obtain ⟨g, a, b, c, d⟩ := h.fl v hv
    exact ⟨g, a, b, c, fun j u hu => (hk ⟨g, 0 + j, none⟩ b c).trans (d j u hu)⟩
theorem Rws.frm {w w' : World} {lo hi n gw : Nat} {r : Option Nat} {A : Option Addr} {vs : List Rv} (h : Rws w lo hi A n vs) (hf : Frm w w' gw r) (hhi : hi ≤ w.heap.size) (hg : gw < lo) (hr : ∀ k, r = some k → k < lo) : Rws w' lo hi A n vs :=
  h.keep fun p h1 h2 => World.cell?_of_block (hf.block p.block (by omega) (by omega) (fun e => by have := hr _ e.symm; omega))

/-- The writer, since a world. -/
structure WrSt (w wr : World) (gw : Nat) (v0 : Value) (bs : List Bool) (v : Value) : Prop where
  wr_ : Wr wr gw bs v
  fr : Frm w wr gw v0.ownBlock
  ow : v.ownBlock = v0.ownBlock ∨ ∀ k, v.ownBlock = some k → w.heap.size ≤ k
section
variable {w wr w' : World} {gw : Nat} {v0 v v' : Value} {bs bs' : List Bool}
theorem WrSt.start (h : Wr w gw bs v0) : WrSt w w gw v0 bs v0 := ⟨h, Frm.refl _ _ _, .inl rfl⟩
theorem WrSt.grown (h : WrSt w wr gw v0 bs v) (hg : wr.grownBy w' none) : WrSt w w' gw v0 bs v := ⟨h.wr_.grown hg, h.fr.grown hg (.inr (.inr (fun _ e => by cases e))), h.ow⟩
theorem WrSt.put (h : WrSt w wr gw v0 bs v) (h1 : Wr w' gw bs' v') (h2 : v'.ownBlock = v.ownBlock ∨ ∀ k, v'.ownBlock = some k → wr.heap.size ≤ k) (h3 : Frm wr w' gw v.ownBlock) : WrSt w w' gw v0 bs' v' := by
  refine ⟨h1, ⟨h3.os.trans h.fr.os, h3.tape.trans h.fr.tape, h3.output.trans h.fr.output, Nat.le_trans h.fr.size h3.size, fun k hk hg hr => ?_⟩, ?_⟩
  · refine (h3.block k (Nat.lt_of_lt_of_le hk h.fr.size) hg ?_).trans (h.fr.block k hk hg hr)
    rcases h.ow with e | e
    · rw [e]; exact hr
    · intro e2; have := e k e2.symm; omega
  · rcases h2 with e | e
    · rw [e]; exact h.ow
    · exact .inr fun k hk => Nat.le_trans h.fr.size (e k hk)
theorem wr_ne {k : Nat} {t : TypeId} {cs : Array Value} (h : Wr wr gw bs v) (hb : Blk wr k t cs) (ht : t ≠ 5) : some k ≠ v.ownBlock := by
  rcases h.row.2 with ⟨hv, _⟩ | ⟨g', cap, cur, hv, _, hh, _⟩
  · rw [hv]; intro e; cases e
  · rw [hv]
    intro e
    have e2 : k = g' := by injection e
    subst e2
    have := hb.symm.trans hh
    injection this with this
    injection this with _ h5 _
    exact ht h5
theorem WrSt.blk {k : Nat} {t : TypeId} {cs : Array Value} (h : WrSt w wr gw v0 bs v) (h3 : Frm wr w' gw v.ownBlock) (hb : Blk wr k t cs) (ht : t ≠ 5) (hk : k ≠ gw) : Blk w' k t cs :=
  (h3.block k hb.lt hk (wr_ne h.wr_ hb ht)).trans hb
theorem WrSt.own {base n sz : Nat} {t : TypeId} {a : Value} {xs : List Value} (h : WrSt w wr gw v0 bs v) (h3 : Frm wr w' gw v.ownBlock) (hb : wr.ownsRow base t sz a n xs) (ht : t ≠ 5) (hk : gw < base) : w'.ownsRow base t sz a n xs := by
  refine ⟨hb.1, ?_⟩
  rcases hb.2 with hn | ⟨g, cap, cur, hv, hbb, hh, rest⟩
  · exact .inl hn
  · refine .inr ⟨g, cap, cur, hv, hbb, ?_, rest⟩
    have hB : Blk wr g t cur := hh
    exact h.blk h3 hB ht (by omega)
end

/-- What stays while rows are written. -/
structure WSt (w wr : World) (gw : Nat) (v0 : Value) (bs : List Bool) (v : Value) (s : Array Value) (base : Nat) (a : Value) (n : Nat) (ids : List Int) : Prop where
  st : WrSt w wr gw v0 bs v
  b0 : Blk wr w.heap.size 83 s
  own : wr.ownsRow base 3 1 a n (ids.flatMap icl)
  lo : gw < w.heap.size
  lo2 : gw < base
section
variable {w wr w' : World} {gw base n : Nat} {v0 v v' a : Value} {bs bs' : List Bool} {s : Array Value} {ids : List Int}
theorem WSt.grown (h : WSt w wr gw v0 bs v s base a n ids) (hg : wr.grownBy w' none) : WSt w w' gw v0 bs v s base a n ids :=
  ⟨h.st.grown hg, h.b0.grown hg (by simp), own_kept h.own hg, h.lo, h.lo2⟩
theorem WSt.put (h : WSt w wr gw v0 bs v s base a n ids) (h1 : Wr w' gw bs' v') (h2 : v'.ownBlock = v.ownBlock ∨ ∀ k, v'.ownBlock = some k → wr.heap.size ≤ k) (h3 : Frm wr w' gw v.ownBlock) : WSt w w' gw v0 bs' v' s base a n ids :=
  ⟨h.st.put h1 h2 h3, h.st.blk h3 h.b0 (by decide) (by have := h.lo; omega), h.st.own h3 h.own (by decide) h.lo2, h.lo, h.lo2⟩
end
end Go.Proofs.YtbilegkffooioaaGreatDoor
/-
  **view.write**: rows' bits, from nothing.
-/
namespace Go.Proofs.YtbilegkffooioaaGreatDoor
open Go.RowKit

theorem flagT_calls (W : World) : Calls Tryz.prog 87 #[.bool true] W fun e w' => e = .returned (.int .i64 1) ∧ w' = W := flag_calls true W
theorem flagF_calls (W : World) : Calls Tryz.prog 87 #[.bool false] W fun e w' => e = .returned (.int .i64 0) ∧ w' = W := flag_calls false W
theorem zeros_at {n i : Nat} (h : i < n) : (ints (zeros n)).toArray[i]? = some (.int .i64 0) := by
  simp [ints, zeros, h]
theorem wrap_pos (x : Int) (h : 0 < x ∧ x ≤ 2147483647) : IntKind.u64.wrap x = ((x.toNat : Nat) : Int) := by rw [IntKind.wrap_u64]; omega
/-- What find says of nothing. -/
def FindNone (nf fl : Nat) (most : Int) : Prop := ∀ (id : Int) (W : World), Calls Tryz.prog 103 #[.agg #[.int .i64 nf, .int .i64 fl, .int .i64 most], .slice none 0 0, .int .i64 id] W fun e w' => ∃ g, e = .returned (.tuple #[.agg #[.int .i64 id, .slice (some ⟨g, 0, none⟩) nf nf], .bool false]) ∧ W.grownBy w' none ∧ W.heap.size ≤ g ∧ g < w'.heap.size ∧ Blk w' g 2 (ints (zeros nf)).toArray

theorem bangD {α : Type} [Inhabited α] {l : List α} {i : Nat} (h : i < l.length) : l[i]! = l[i] := by simp [h]

set_option maxHeartbeats 16000000 in
set_option maxRecDepth 1000000 in
theorem write_calls (nf fl : Nat) (most : Int) (hNone : FindNone nf fl most) (gw n c lo hi : Nat) (A : Option Addr) (vs : List Rv) (bs : List Bool) (v0 : Value) (w : World) (hw : Wr w gw bs v0) (hR : Rws w lo hi A n vs) (hhi : hi ≤ w.heap.size) (hgw : gw < lo) (hv0 : ∀ k, v0.ownBlock = some k → k < lo)
    (hn : n ≤ 64) (hnf : nf ≤ 14) (hlen : ∀ v ∈ vs, v.fields.length = nf) (hasc : vs.Pairwise fun a b => a.id < b.id) (hpos : ∀ v ∈ vs, 0 < v.id ∧ v.id ≤ 2147483647) (hbs : bs.length ≤ 100000) :
    Calls Tryz.prog 45 #[.agg #[.int .i64 nf, .int .i64 fl, .int .i64 most], .pointer (some ⟨gw, 0, none⟩), .slice none 0 0, .slice A n c] w fun e w' => e = .returned (.tuple #[]) ∧ ∃ v, WrSt w w' gw v0 (bs ++ rowsBits fl (vs.map Rv.row)) v := by
  have HNONE := Lib.hid hNone
  have HW := Lib.hid hw
  have HR := Lib.hid hR
  have HGW := Lib.hid hgw
  have HHI := Lib.hid hhi
  have HV0 := Lib.hid hv0
  have HLEN := Lib.hid hlen
  have HASC := Lib.hid hasc
  have HPOS := Lib.hid hpos
  have HBS := Lib.hid hbs
  have HGL : Hid (gw < w.heap.size) := Lib.hid hw.blk.lt
  have HRG := Lib.hid (hR.rg.more hhi)
  have HBL : Hid (∀ k, (entsBits fl (vs.map Rv.row) k).length ≤ 495 * 64) := Lib.hid fun k => by
    have h1 := entsBits_le fl (vs.map Rv.row) 14 (fun r hr => by obtain ⟨v, hv, rfl⟩ := List.mem_map.1 hr; show v.fields.length ≤ 14; rw [hlen v hv]; exact hnf)
    rcases Nat.lt_or_ge k 65 with h | h
    · exact Nat.le_trans (h1 k) (by omega)
    · have e : entsBits fl (vs.map Rv.row) k = entsBits fl (vs.map Rv.row) 64 := by
        have hl : (vs.map Rv.row).length ≤ 64 := by rw [List.length_map, hR.rg.1]; exact hn
        unfold entsBits
        rw [List.take_of_length_le (by omega), List.take_of_length_le hl]
      rw [e]; exact Nat.le_trans (h1 64) (by omega)
  clear hNone hw hR hgw hhi hv0 hlen hasc hpos hbs
  go_enter Tryz.func45, Tryz.ntmps45
  go_wp2_with fail
  refine (cloneRows_calls 0 _).mono ?_
  rintro e w1 ⟨rfl, hg1⟩
  have HG1 : Hid ((w.alloc (.cells #[.int .i64 nf, .int .i64 fl, .int .i64 most] 83)).grownBy w1 none) := Lib.hid hg1
  clear hg1
  go_wp2_with (at_builtin; refine wpList_append_rg rfl (.tmp 18) (.tmp 19) 85 rfl w1.heap.size 89 (.agg #[.int .i64 0, .slice none 0 0]) 2 32 Rv.cl_len Tryz.underlying85 Tryz.info89 rfl (by decide) (.slice none 0 0) 0 [] rfl (World.ownsRow_nil _ _ 89 2) _ _ n c vs rfl (HRG.out.grown ((World.grownBy_alloc _ _ none).trans HG1.out) (Nat.le_refl _) (by simp)) (Rv.one _) n (Nat.zero_add n) (by simp only [maxLen]; omega) (by omega) (Nat.le_refl _) ?_; intro A2 c2 w2 hown hgrow hat; have H1 := Lib.hid hown; have H2 : Hid (w1.grownBy w2 none) := Lib.hid hgrow; clear hown hgrow hat)
  refine (eachId_calls n c2 A2 vs (by omega) w2 (own_rg Rv.cl_len (by decide) (by simpa using H1.out))).mono ?_
  rintro e w3 ⟨A3, c3, rfl, hg3, ho3⟩
  have H3 := Lib.hid (H2.out.trans hg3)
  have HO3 := Lib.hid ho3
  clear hg3 ho3
  have hidl : (vs.map Rv.id).length = n := by rw [List.length_map, HRG.out.1]
  have hida : (vs.map Rv.id).Pairwise (· < ·) := List.pairwise_map.2 HASC.out
  go_wp2_with fail
  refine (sortIds_calls w2.heap.size n c3 A3 (vs.map Rv.id) w3 HO3.out hidl (by omega) hida).mono ?_
  rintro e w4 ⟨rfl, hg4⟩
  have HO4 := Lib.hid (own_kept HO3.out hg4)
  have H4 := Lib.hid (H3.out.trans hg4)
  clear hg4
  go_wp2_with fail
  refine (compactIds_calls w2.heap.size n c3 A3 (vs.map Rv.id) w4 HO4.out hidl (by omega) hida).mono ?_
  rintro e w5 ⟨rfl, hg5⟩
  have HO5 := Lib.hid (own_kept HO4.out hg5)
  have H5 := Lib.hid (H4.out.trans hg5)
  have hW : (w.alloc (.cells #[.int .i64 nf, .int .i64 fl, .int .i64 most] 83)).grownBy w5 none := HG1.out.trans H5.out
  have HST : Hid (WSt w w5 gw v0 (bs ++ entsBits fl (vs.map Rv.row) 0) v0 #[.int .i64 nf, .int .i64 fl, .int .i64 most] w2.heap.size (.slice A3 n c3) n (vs.map Rv.id)) := Lib.hid ⟨((WrSt.start HW.out).grown ((World.grownBy_alloc _ _ none).trans hW)) |> (by simpa [entsBits] using ·), (Blk.new w 83 _).grown hW (by simp), HO5.out, HGL.out, by have h1 := H2.out.size; have h2 := HG1.out.size; have h3 := HGL.out; have h4 := (World.grownBy_alloc w (.cells #[.int .i64 nf, .int .i64 fl, .int .i64 most] 83) none).size; omega⟩
  obtain ⟨base, hbase⟩ : ∃ base, w2.heap.size = base := ⟨_, rfl⟩
  rw [hbase] at HST
  clear hg5 hidl hida hW HO3 HO4 HO5 H3 H4 H5 HG1 H1 H2 hbase
  go_wp2_with fail
  go_loopg [27] n (fun kx s27 wr => ∃ (k : Nat) (v : Value), s27 = .int .i64 k ∧ k ≤ n ∧ n - k ≤ kx ∧ Hid (WSt w wr gw v0 (bs ++ entsBits fl (vs.map Rv.row) k) v #[.int .i64 nf, .int .i64 fl, .int .i64 most] base (.slice A3 n c3) n (vs.map Rv.id)))
  case atStart => exact ⟨0, v0, rfl, by omega, by omega, HST⟩
  case round =>
    obtain ⟨k, v, rfl, hk, hkx, HT⟩ := hrel
    by_cases hlt : k < n
    · obtain ⟨v1, hv1⟩ : ∃ v1, vs[k]? = some v1 := ⟨vs[k]'(by rw [HRG.out.1]; exact hlt), List.getElem?_eq_getElem _⟩
      have hm1 := List.mem_of_getElem? hv1
      obtain ⟨id1, A1, cp1, fs⟩ := v1
      obtain ⟨gv, hA1, hgv1, hgv2, _⟩ := HR.out.fl _ hm1
      simp only at hA1
      subst hA1
      have HFL : Hid (fs.length = nf) := Lib.hid (HLEN.out _ hm1)
      have hp1 : 0 < id1 ∧ id1 ≤ 2147483647 := HPOS.out _ hm1
      obtain ⟨gi, capi, hgi, hbi, hli⟩ := HT.out.own.form (by omega)
      injection hgi with hgi1 hgi2 hgi3
      subst hgi1
      have c0 : wr.cell? ⟨gi, k, none⟩ = some (.int .i64 id1) := by
        have hx : ((vs.map Rv.id).flatMap icl)[k]? = some (.int .i64 id1) := by
          have := flat_at icl_len (vs.map Rv.id) k id1 (by rw [List.getElem?_map, hv1]; rfl) 0 (.int .i64 id1) rfl
          rwa [Nat.mul_one, Nat.add_zero] at this
        have := HT.out.own.cells (g := gi) rfl k _ hx
        rw [Addr.add_lit, Nat.zero_add] at this
        exact this
      have b0 := HT.out.b0.cell 0
      have b1 := HT.out.b0.cell 1
      have b2 := HT.out.b0.cell 2
      have HV1 := Lib.hid hv1
      have HM1 := Lib.hid hm1
      have hbk : (k : Int) < (n : Int) := by omega
      clear hv1 hm1 hbi hli hgi2 hgi3
      go_wp2_with fail
      refine (HNONE.out id1 wr).mono ?_
      rintro e w6 ⟨g0, rfl, hg6, hlo6, hhi6, hz6⟩
      have HT6 := Lib.hid (HT.out.grown (hg6.trans (World.grownBy_alloc w6 (.cells #[.int .i64 id1, .slice (some ⟨g0, 0, none⟩) nf nf] 89) none)))
      have HZ6 := Lib.hid (hz6.alloc (.cells #[.int .i64 id1, .slice (some ⟨g0, 0, none⟩) nf nf] 89))
      have HB11 := Lib.hid (Blk.new w6 89 #[.int .i64 id1, .slice (some ⟨g0, 0, none⟩) nf nf])
      have k0 := HT6.out.b0.cell 0
      have k1 := HT6.out.b0.cell 1
      have k2 := HT6.out.b0.cell 2
      have HR6 := Lib.hid (HR.out.frm HT6.out.st.fr HHI.out HGW.out HV0.out)
      have HN6 : Hid (gw < w6.heap.size) := Lib.hid (by have := HT.out.lo; have := HT.out.st.fr.size; have := hg6.size; omega)
      have HX6 : Hid (hi ≤ (w6.alloc (.cells #[.int .i64 id1, .slice (some ⟨g0, 0, none⟩) nf nf] 89)).heap.size) := Lib.hid (Nat.le_trans HHI.out HT6.out.st.fr.size)
      have HG0 : Hid (g0 ≠ gw) := Lib.hid (by have := HT.out.lo; have := HT.out.st.fr.size; omega)
      clear hg6 hlo6 hhi6 hz6 c0 b0 b1 b2
      go_wp2_with fail
      refine (findHit_calls nf fl most n c k A vs (by omega) _ (HR6.out.rg.more HX6.out) ⟨id1, some ⟨gv, 0, none⟩, cp1, fs⟩ HV1.out (fun j hj => ?_)).mono ?_
      · have hkl := (List.getElem?_eq_some_iff.1 HV1.out).1
        have e1 := (List.getElem?_eq_some_iff.1 HV1.out).2
        have := List.pairwise_iff_getElem.1 HASC.out j k (by omega) hkl hj
        rw [e1] at this
        have e2 : vs[j]! = vs[j] := bangD (by omega)
        rw [e2]; omega
      rintro e w7 ⟨rfl, hg7⟩
      have HT7 := Lib.hid (HT6.out.grown (hg7.trans (World.grownBy_alloc w7 (.cells #[.int .i64 id1, .slice (some ⟨gv, 0, none⟩) fs.length cp1] 89) none)))
      have HZ7 := Lib.hid ((HZ6.out.grown hg7 (by simp)).alloc (.cells #[.int .i64 id1, .slice (some ⟨gv, 0, none⟩) fs.length cp1] 89))
      have HB11' := Lib.hid ((HB11.out.grown hg7 (by simp)).alloc (.cells #[.int .i64 id1, .slice (some ⟨gv, 0, none⟩) fs.length cp1] 89))
      have HB13 := Lib.hid (Blk.new w7 89 #[.int .i64 id1, .slice (some ⟨gv, 0, none⟩) fs.length cp1])
      have HN7 : Hid (gw < w7.heap.size) := Lib.hid (by have := HN6.out; have := hg7.size; have := (World.grownBy_alloc w6 (.cells #[.int .i64 id1, .slice (some ⟨g0, 0, none⟩) nf nf] 89) none).size; omega)
      clear hg7 k0 k1 k2
      go_wp2_with fail
      have hl0 : (bs ++ entsBits fl (vs.map Rv.row) k).length ≤ 140000 := by rw [List.length_append]; have := HBL.out k; have := HBS.out; omega
      have HL0 := Lib.hid hl0
      clear hl0
      obtain ⟨L0, hL0⟩ : ∃ L0, bs ++ entsBits fl (vs.map Rv.row) k = L0 := ⟨_, rfl⟩
      rw [hL0] at HT7 HL0
      have HL0E := Lib.hid hL0
      clear hL0
      refine (put_calls gw 1 1 (by decide) L0 (by have := HL0.out; omega) v _ HT7.out.st.wr_).mono ?_
      rintro e w8 ⟨rfl, v8, p1, p2, p3⟩
      have HT8 := Lib.hid (HT7.out.put p1 p2 p3)
      have HZ8 := Lib.hid (HT7.out.st.blk p3 HZ7.out (by decide) HG0.out)
      have HB118 := Lib.hid (HT7.out.st.blk p3 HB11'.out (by decide) (by have := HN6.out; omega))
      have HB138 := Lib.hid (HT7.out.st.blk p3 HB13.out (by decide) (by have := HN7.out; omega))
      obtain ⟨im, him⟩ : ∃ im : Nat, id1.toNat = im := ⟨_, rfl⟩
      have hwr : IntKind.u64.wrap id1 = (im : Int) := by rw [wrap_pos id1 hp1, him]
      have him2 : im < 18446744073709551616 := by omega
      have HIM := Lib.hid him
      clear him
      clear p1 p2 p3
      go_wp2_with fail
      refine (put_calls gw im 31 him2 (L0 ++ hb 1 (inn 1)) (by rw [List.length_append, hb_len]; have := HL0.out; have := inn_le 1; omega) v8 _ HT8.out.st.wr_).mono ?_
      rintro e w9 ⟨rfl, v9, p1, p2, p3⟩
      have HT9 := Lib.hid (HT8.out.put p1 p2 p3)
      have HZ9 := Lib.hid (HT8.out.st.blk p3 HZ8.out (by decide) HG0.out)
      have HB119 := Lib.hid (HT8.out.st.blk p3 HB118.out (by decide) (by have := HN6.out; omega))
      have HB139 := Lib.hid (HT8.out.st.blk p3 HB138.out (by decide) (by have := HN7.out; omega))
      clear p1 p2 p3 hwr
      go_wp2_with fail
      refine (flagF_calls _).mono ?_
      rintro e w10 ⟨rfl, rfl⟩
      go_wp2_with fail
      refine (put_calls gw 0 1 (by decide) (L0 ++ hb 1 (inn 1) ++ hb im (inn 31)) (by rw [List.length_append, List.length_append, hb_len, hb_len]; have := HL0.out; have := inn_le 1; have := inn_le 31; omega) v9 _ HT9.out.st.wr_).mono ?_
      rintro e w11 ⟨rfl, v11, p1, p2, p3⟩
      have HT11 := Lib.hid (HT9.out.put p1 p2 p3)
      have HZ11 := Lib.hid (HT9.out.st.blk p3 HZ9.out (by decide) HG0.out)
      have HB1111 := Lib.hid (HT9.out.st.blk p3 HB119.out (by decide) (by have := HN6.out; omega))
      have HB1311 := Lib.hid (HT9.out.st.blk p3 HB139.out (by decide) (by have := HN7.out; omega))
      have d0 := HB1311.out.cell 0
      have d1 := HB1311.out.cell 1
      clear p1 p2 p3
      obtain ⟨L1, hL1⟩ : ∃ L1, L0 ++ hb 1 (inn 1) ++ hb im (inn 31) ++ hb 0 (inn 1) = L1 := ⟨_, rfl⟩
      rw [hL1] at HT11
      have HL1E := Lib.hid hL1
      have HL1 : Hid (L1.length ≤ 140200) := Lib.hid (by rw [← hL1]; simp only [List.length_append, hb_len]; have := HL0.out; have := inn_le 1; have := inn_le 31; omega)
      obtain ⟨b11, hb11⟩ : ∃ b, w6.heap.size = b := ⟨_, rfl⟩
      rw [hb11] at HB1111 HN6 ⊢
      clear hL1 HT7 HT8 HT9 HZ6 HZ7 HZ8 HZ9 HB11 HB11' HB118 HB119 HB13 HB138 HB139 HT6 HX6 HR6 hb11
      go_wp2_with fail
      have HB11N : Hid (b11 ≠ gw) := Lib.hid (by have := HN6.out; omega)
      clear HN6 HN7 d0 d1 HB1311
      go_loopg [72] fs.length (fun kx s72 wr => ∃ (i : Nat) (v : Value), s72 = .int .i64 i ∧ i ≤ fs.length ∧ fs.length - i ≤ kx ∧ Hid (WSt w wr gw v0 (L1 ++ fldsBits fl fs i) v #[.int .i64 nf, .int .i64 fl, .int .i64 most] base (.slice (some ⟨gi, 0, none⟩) n c3) n (vs.map Rv.id)) ∧ Hid (Blk wr g0 2 (ints (zeros nf)).toArray) ∧ Hid (Blk wr b11 89 #[.int .i64 id1, .slice (some ⟨g0, 0, none⟩) nf nf]))
      case atStart => exact ⟨0, v11, rfl, by omega, by omega, Lib.hid (by have := HT11.out; simpa [fldsBits] using this), HZ11, HB1111⟩
      case round =>
        obtain ⟨i, v, rfl, hi, hix, HT, HZ, HB⟩ := hrel
        by_cases hlt2 : i < fs.length
        · obtain ⟨x, hx⟩ : ∃ x, fs[i]? = some x := ⟨fs[i], List.getElem?_eq_getElem hlt2⟩
          have hxb : fs[i]! = x := by simp [hx]
          have HXB := Lib.hid hxb
          have hrw := (HR.out.frm HT.out.st.fr HHI.out HGW.out HV0.out).fl _ HM1.out
          obtain ⟨gv', hA', _, _, hcl⟩ := hrw
          simp only at hA'
          injection hA' with hA'
          injection hA' with hA'
          subst hA'
          have cx : wr.cell? ⟨gv, i, none⟩ = some (.int .i64 x) := by
            have := hcl i (.int .i64 x) (by unfold ints; rw [List.getElem?_map, hx]; rfl)
            rwa [Nat.zero_add] at this
          have hin : i < nf := by have := HFL.out; omega
          have cz : wr.cell? ⟨g0, i, none⟩ = some (.int .i64 0) := (HZ.out.cell i).trans (zeros_at hin)
          have d0 := HB.out.cell 0
          have d1 := HB.out.cell 1
          have b0 := HT.out.b0.cell 0
          have b1 := HT.out.b0.cell 1
          have b2 := HT.out.b0.cell 2
          have hbi : (i : Int) < (fs.length : Int) := by omega
          have hbn : (i : Int) < (nf : Int) := by omega
          have HL2 : Hid ((L1 ++ fldsBits fl fs i).length ≤ 150000) := Lib.hid (by rw [List.length_append]; have h1 := fldsBits_le fl fs i; have := HL1.out; omega)
          clear hx hxb hcl
          by_cases hx0 : x = 0
          · subst hx0
            have HEQ : Hid (L1 ++ fldsBits fl fs (i + 1) = L1 ++ fldsBits fl fs i ++ hb 0 (inn 1)) := Lib.hid (by
              rw [fldsBits_succ, HXB.out, ← List.append_assoc]
              unfold fldBits
              rw [if_pos rfl, show hb 0 (inn 1) = [false] by decide])
            go_wp2_with fail
            refine (flagF_calls _).mono ?_
            rintro e w12 ⟨rfl, rfl⟩
            go_wp2_with fail
            refine (put_calls gw 0 1 (by decide) (L1 ++ fldsBits fl fs i) (by have := HL2.out; omega) v _ HT.out.st.wr_).mono ?_
            rintro e w13 ⟨rfl, v13, p1, p2, p3⟩
            have HT13 := Lib.hid (HT.out.put p1 p2 p3)
            have HZ13 := Lib.hid (HT.out.st.blk p3 HZ.out (by decide) HG0.out)
            have HB13 := Lib.hid (HT.out.st.blk p3 HB.out (by decide) HB11N.out)
            have e0 := HB13.out.cell 0
            have e1 := HB13.out.cell 1
            have ez := (HZ13.out.cell i).trans (zeros_at hin)
            have s0 := HT13.out.b0.cell 0
            have s1 := HT13.out.b0.cell 1
            have s2 := HT13.out.b0.cell 2
            clear p1 p2 p3 d0 d1 cz cx b0 b1 b2
            go_wp2_with fail
            go_roundg (fs.length - (i + 1))
            case measure => omega
            case rel =>
              refine ⟨i + 1, v13, by go_num, by omega, by omega, ?_, HZ13, HB13⟩
              rw [HEQ.out]
              exact HT13
          · have hxb0 : (x != 0) = true := by simpa using hx0
            by_cases hif : i = fl
            · subst hif
              have HEQ : Hid (L1 ++ fldsBits i fs (i + 1) = L1 ++ fldsBits i fs i ++ hb 1 (inn 1)) := Lib.hid (by
                rw [fldsBits_succ, HXB.out, ← List.append_assoc]
                unfold fldBits
                rw [if_neg hx0, if_pos rfl, show hb 1 (inn 1) = [true] by decide])
              go_wp2_with fail
              refine (flagT_calls _).mono ?_
              rintro e w12 ⟨rfl, rfl⟩
              go_wp2_with fail
              refine (put_calls gw 1 1 (by decide) (L1 ++ fldsBits i fs i) (by have := HL2.out; omega) v _ HT.out.st.wr_).mono ?_
              rintro e w13 ⟨rfl, v13, p1, p2, p3⟩
              have HT13 := Lib.hid (HT.out.put p1 p2 p3)
              have HZ13 := Lib.hid (HT.out.st.blk p3 HZ.out (by decide) HG0.out)
              have HB13 := Lib.hid (HT.out.st.blk p3 HB.out (by decide) HB11N.out)
              have e0 := HB13.out.cell 0
              have e1 := HB13.out.cell 1
              have ez := (HZ13.out.cell i).trans (zeros_at hin)
              have s0 := HT13.out.b0.cell 0
              have s1 := HT13.out.b0.cell 1
              have s2 := HT13.out.b0.cell 2
              clear p1 p2 p3 d0 d1 cz cx b0 b1 b2
              go_wp2_with fail
              go_roundg (fs.length - (i + 1))
              case measure => omega
              case rel =>
                refine ⟨i + 1, v13, by go_num, by omega, by omega, ?_, HZ13, HB13⟩
                rw [HEQ.out]
                exact HT13
            · have hif2 : ((i : Int) != (fl : Int)) = true := by simp; omega
              have HEQ : Hid (L1 ++ fldsBits fl fs (i + 1) = L1 ++ fldsBits fl fs i ++ hb 1 (inn 1) ++ hb (uw x) (inn 32)) := Lib.hid (by
                rw [fldsBits_succ, HXB.out, ← List.append_assoc]
                unfold fldBits
                rw [if_neg hx0, if_neg hif, show hb 1 (inn 1) = [true] by decide, show inn 32 = 32 by decide]
                simp)
              go_wp2_with fail
              refine (flagT_calls _).mono ?_
              rintro e w12 ⟨rfl, rfl⟩
              go_wp2_with fail
              refine (put_calls gw 1 1 (by decide) (L1 ++ fldsBits fl fs i) (by have := HL2.out; omega) v _ HT.out.st.wr_).mono ?_
              rintro e w13 ⟨rfl, v13, p1, p2, p3⟩
              have HT13 := Lib.hid (HT.out.put p1 p2 p3)
              have HZ13 := Lib.hid (HT.out.st.blk p3 HZ.out (by decide) HG0.out)
              have HB13 := Lib.hid (HT.out.st.blk p3 HB.out (by decide) HB11N.out)
              have e0 := HB13.out.cell 0
              have e1 := HB13.out.cell 1
              have ez := (HZ13.out.cell i).trans (zeros_at hin)
              have s0 := HT13.out.b0.cell 0
              have s1 := HT13.out.b0.cell 1
              have s2 := HT13.out.b0.cell 2
              clear p1 p2 p3 d0 d1 cz cx b0 b1 b2
              go_wp2_with fail
              refine (signW_calls gw x 32 (L1 ++ fldsBits fl fs i ++ hb 1 (inn 1)) (by rw [List.length_append, hb_len]; have := HL2.out; have := inn_le 1; omega) v13 _ HT13.out.st.wr_).mono ?_
              rintro e w14 ⟨rfl, v14, p1, p2, p3⟩
              have HT14 := Lib.hid (HT13.out.put p1 p2 p3)
              have HZ14 := Lib.hid (HT13.out.st.blk p3 HZ13.out (by decide) HG0.out)
              have HB14 := Lib.hid (HT13.out.st.blk p3 HB13.out (by decide) HB11N.out)
              clear p1 p2 p3
              go_wp2_with fail
              go_roundg (fs.length - (i + 1))
              case measure => omega
              case rel =>
                refine ⟨i + 1, v14, by go_num, by omega, by omega, ?_, HZ14, HB14⟩
                rw [HEQ.out]
                exact HT14
        · obtain rfl : i = fs.length := by omega
          have HEQ : Hid (bs ++ entsBits fl (vs.map Rv.row) (k + 1) = L1 ++ fldsBits fl fs fs.length) := Lib.hid (by
            have hx : (vs.map Rv.row)[k]? = some ⟨id1, fs⟩ := by rw [List.getElem?_map, HV1.out]; rfl
            rw [entsBits_succ fl _ k _ hx, ← List.append_assoc, HL0E.out, ← HL1E.out, ← HIM.out]
            unfold entBits
            rw [show hb 1 (inn 1) = [true] by decide, show hb 0 (inn 1) = [false] by decide, show inn 31 = 31 by decide]
            simp)
          go_wp2_with fail
          go_roundg (n - (k + 1))
          case measure => omega
          case rel =>
            refine ⟨k + 1, v, by go_num, by omega, by omega, ?_⟩
            rw [HEQ.out]
            exact HT
    · obtain rfl : k = n := by omega
      have HP := Lib.hid (put_calls gw 0 1 (by decide) _ (by rw [List.length_append]; have := HBL.out k; have := HBS.out; omega) v wr HT.out.st.wr_)
      go_wp2_with fail
      refine HP.out.mono ?_
      rintro e w6 ⟨rfl, v6, h1, h2, h3⟩
      have HF := Lib.hid (HT.out.st.put h1 h2 h3)
      clear h1 h2 h3 HP
      go_wp2_with fail
      go_end0
      refine ⟨rfl, v6, ?_⟩
      have hl : (vs.map Rv.row).length = k := by rw [List.length_map, HRG.out.1]
      have := HF.out
      unfold rowsBits
      rw [hl, ← List.append_assoc]
      exact this
end Go.Proofs.YtbilegkffooioaaGreatDoor
/-
  **view.Delta**, from nothing.
-/
namespace Go.Proofs.YtbilegkffooioaaGreatDoor
open Go.RowKit

/-- What rows are that may be. -/
theorem rightGo_facts : ∀ (rs : List Rw) (last : Int), rightGo last rs = true → rs.Pairwise (fun a b => a.id < b.id) ∧ ∀ r ∈ rs, last < r.id ∧ r.id ≤ 2147483647 ∧ ∀ x ∈ r.fields, -2147483648 ≤ x ∧ x ≤ 2147483647
  | [], _, _ => by simp
  | r :: rs, last, h => by
    unfold rightGo at h
    split at h
    · cases h
    · rename_i hn
      have h1 : last < r.id := by omega
      obtain ⟨h2, h3⟩ := rightGo_facts rs r.id h
      refine ⟨List.pairwise_cons.2 ⟨fun b hb => (h3 b hb).1, h2⟩, fun q hq => ?_⟩
      rcases List.mem_cons.1 hq with rfl | hq
      · refine ⟨h1, by omega, fun x hx => ?_⟩
        have h4 : ¬ (q.fields.any wideF = true) := fun h => hn (.inr (.inr h))
        have h5 : wideF x = false := by
          cases hw : wideF x with
          | false => rfl
          | true => exact absurd (List.any_eq_true.2 ⟨x, hx, hw⟩) h4
        unfold wideF at h5
        simp at h5
        omega
      · obtain ⟨a, b, c⟩ := h3 q hq
        exact ⟨by omega, b, c⟩
theorem right_facts {most : Int} {rs : List Rw} (h : rightB most rs = true) : rs.Pairwise (fun a b => a.id < b.id) ∧ (∀ r ∈ rs, 0 < r.id ∧ r.id ≤ 2147483647 ∧ ∀ x ∈ r.fields, -2147483648 ≤ x ∧ x ≤ 2147483647) ∧ (rs.length : Int) ≤ most := by
  unfold rightB at h
  rw [Bool.and_eq_true] at h
  obtain ⟨h1, h2⟩ := rightGo_facts rs 0 h.1
  exact ⟨h1, h2, of_decide_eq_true h.2⟩
/-- write, of rows by what they say. -/
theorem writeRows_calls (nf fl : Nat) (most : Int) (hNone : FindNone nf fl most) (gw n c lo : Nat) (A : Option Addr) (rs : List Rw) (bs : List Bool) (v0 : Value) (w : World) (hw : Wr w gw bs v0) (hR : RowsAt w lo A n rs) (hgw : gw < lo) (hv0 : ∀ k, v0.ownBlock = some k → k < lo)
    (hn : n ≤ 64) (hnf : nf ≤ 14) (hlen : ∀ r ∈ rs, r.fields.length = nf) (hr : rightB most rs = true) (hbs : bs.length ≤ 100000) :
    Calls Tryz.prog 45 #[.agg #[.int .i64 nf, .int .i64 fl, .int .i64 most], .pointer (some ⟨gw, 0, none⟩), .slice none 0 0, .slice A n c] w fun e w' => e = .returned (.tuple #[]) ∧ ∃ v, WrSt w w' gw v0 (bs ++ rowsBits fl rs) v := by
  obtain ⟨vs, hvs, hRw⟩ := hR.rws
  obtain ⟨h1, h2, _⟩ := right_facts hr
  have := write_calls nf fl most hNone gw n c lo w.heap.size A vs bs v0 w hw hRw (Nat.le_refl _) hgw hv0 hn hnf (fun v hv => hlen v.row (hvs ▸ List.mem_map_of_mem hv)) (by rw [← hvs, List.pairwise_map] at h1; exact h1) (fun v hv => by have := h2 v.row (hvs ▸ List.mem_map_of_mem hv); exact ⟨this.1, this.2.1⟩) hbs
  rw [hvs] at this
  exact this

/-- What Delta reads. -/
structure DSt (w W : World) (sp ss : Value) : Prop where
  gl : Gl W
  b2 : Blk W w.heap.size 26 #[.slice none 0 0, .slice none 0 0]
  b3 : Blk W (w.heap.size + 1) 26 #[sp, ss]
  gr : w.grownBy W none
section
variable {w W W' : World} {sp ss : Value}
theorem DSt.grown (h : DSt w W sp ss) (hg : W.grownBy W' none) : DSt w W' sp ss := ⟨h.gl.grown hg, h.b2.grown hg (by simp), h.b3.grown hg (by simp), h.gr.trans hg⟩
theorem DSt.frm {gw : Nat} {r : Option Nat} (h : DSt w W sp ss) (f : Frm W W' gw r) (hg : w.heap.size + 1 < gw) (hr : ∀ k, r = some k → w.heap.size + 1 < k) (h2 : 2 ≤ w.heap.size) : DSt w W' sp ss := by
  have hk : ∀ k, k ≤ w.heap.size + 1 → W'.heap[k]? = W.heap[k]? := fun k hk => f.block k (Nat.lt_of_le_of_lt hk h.b3.lt) (by omega) (fun e => by have := hr k e.symm; omega)
  exact ⟨⟨(hk 0 (by omega)).trans h.gl.players, (hk 1 (by omega)).trans h.gl.shots⟩, (hk _ (by omega)).trans h.b2, (hk _ (by omega)).trans h.b3, Frm.over h.gr f (by omega) (fun j e => by have := hr j e; omega)⟩
theorem DSt.cells {a b : Value} (h : DSt w W a b) : W.cell? ⟨0, 0, none⟩ = some (.int .i64 14) ∧ W.cell? ⟨0, 1, none⟩ = some (.int .i64 6) ∧ W.cell? ⟨0, 2, none⟩ = some (.int .i64 8) ∧
    W.cell? ⟨1, 0, none⟩ = some (.int .i64 10) ∧ W.cell? ⟨1, 1, none⟩ = some (.int .i64 9) ∧ W.cell? ⟨1, 2, none⟩ = some (.int .i64 64) ∧
    W.cell? ⟨w.heap.size, 0, none⟩ = some (.slice none 0 0) ∧ W.cell? ⟨w.heap.size, 1, none⟩ = some (.slice none 0 0) ∧ W.cell? ⟨w.heap.size + 1, 0, none⟩ = some a ∧ W.cell? ⟨w.heap.size + 1, 1, none⟩ = some b :=
  ⟨cell_of_row _ _ 0 _ _ _ h.gl.players, cell_of_row _ _ 1 _ _ _ h.gl.players, cell_of_row _ _ 2 _ _ _ h.gl.players, cell_of_row _ _ 0 _ _ _ h.gl.shots, cell_of_row _ _ 1 _ _ _ h.gl.shots, cell_of_row _ _ 2 _ _ _ h.gl.shots, h.b2.cell 0, h.b2.cell 1, h.b3.cell 0, h.b3.cell 1⟩
theorem dSt_start {w : World} {sp ss : Value} (h : Gl w) : DSt w ((w.alloc (.cells #[.slice none 0 0, .slice none 0 0] 26)).alloc (.cells #[sp, ss] 26)) sp ss := by
  have e1 : (w.alloc (.cells #[.slice none 0 0, .slice none 0 0] 26)).heap.size = w.heap.size + 1 := by simp
  have h2 := Blk.new (w.alloc (.cells #[.slice none 0 0, .slice none 0 0] 26)) 26 #[sp, ss]
  rw [e1] at h2
  exact ⟨h.grown ((World.grownBy_alloc _ _ none).trans (World.grownBy_alloc _ _ none)), (Blk.new w 26 _).alloc _, h2, (World.grownBy_alloc _ _ none).trans (World.grownBy_alloc _ _ none)⟩
end
/-- A state's bits. -/
def stBits (ps : List Pl) (ss : List Sh) : List Bool := rowsBits 6 (ps.map Pl.row) ++ rowsBits 9 (ss.map Sh.row)
theorem right_nil : rightS [] [] = true := by decide
theorem rows14 {ps : List Pl} : ∀ r ∈ ps.map Pl.row, r.fields.length = 14 := fun r hr => by
  obtain ⟨p, _, rfl⟩ := List.mem_map.1 hr; rfl
theorem rows10 {ss : List Sh} : ∀ r ∈ ss.map Sh.row, r.fields.length = 10 := fun r hr => by
  obtain ⟨p, _, rfl⟩ := List.mem_map.1 hr; rfl
theorem findNone14 (fl : Nat) (most : Int) : FindNone 14 fl most := fun id W => findNone14_calls fl most id W
theorem findNone10 (fl : Nat) (most : Int) : FindNone 10 fl most := fun id W => findNone10_calls fl most id W
theorem rowsBits_le (fl m k : Nat) (rs : List Rw) (hm : ∀ r ∈ rs, r.fields.length ≤ m) (hk : rs.length ≤ k) : (rowsBits fl rs).length ≤ (33 + 33 * m) * k + 1 := by
  unfold rowsBits
  rw [List.length_append]
  have h1 := entsBits_le fl rs m hm rs.length
  have h2 := Nat.mul_le_mul_left (33 + 33 * m) hk
  simp only [List.length_cons, List.length_nil]
  omega

set_option maxHeartbeats 8000000 in
set_option maxRecDepth 1000000 in
/-- **Delta**, from nothing. -/
theorem delta_calls (B : Nat) (Ap As : Option Addr) (np cp ns cs : Nat) (ps : List Pl) (ss : List Sh) (hnp : np ≤ 64) (hns : ns ≤ 64) (w : World) (hgl : Gl w) (hp : Rg 15 Pl.cl w B Ap np ps) (hs : Rg 11 Sh.cl w B As ns ss) (hB : B ≤ w.heap.size) (hr : rightS ps ss = true) :
    Calls Tryz.prog 8 #[.agg #[.slice none 0 0, .slice none 0 0], .agg #[.slice Ap np cp, .slice As ns cs]] w fun e w' => ∃ A' c', e = .returned (.slice A' (((stBits ps ss).length + 7) / 8) c') ∧ w'.ownsRow w.heap.size 5 1 (.slice A' (((stBits ps ss).length + 7) / 8) c') (((stBits ps ss).length + 7) / 8) ((pk (stBits ps ss) (((stBits ps ss).length + 7) / 8)).map bv) ∧ w.grownBy w' none := by
  have HGL := Lib.hid hgl
  have HP := Lib.hid hp
  have HS := Lib.hid hs
  have HD0 := Lib.hid (dSt_start (sp := .slice Ap np cp) (ss := .slice As ns cs) hgl)
  have h2w := hgl.two
  obtain ⟨hr1, hr2⟩ := (Bool.and_eq_true _ _).mp (show (rightB 8 (ps.map Pl.row) && rightB 64 (ss.map Sh.row)) = true from hr)
  have HR1 := Lib.hid hr1
  have HR2 := Lib.hid hr2
  have HR0 : Hid (∀ W, Gl W → Calls Tryz.prog 6 #[.agg #[.slice none 0 0, .slice none 0 0]] W fun e w' => e = .returned (.bool true) ∧ W.grownBy w' none) := Lib.hid fun W hW => by
    have := rightS_calls 0 none none 0 0 0 0 [] [] (by decide) (by decide) W hW (Rg.nil_ _ _ _) (Rg.nil_ _ _ _) (Nat.zero_le _)
    rw [right_nil] at this
    exact this
  have HRN : Hid (∀ W, Gl W → w.grownBy W none → Calls Tryz.prog 6 #[.agg #[.slice Ap np cp, .slice As ns cs]] W fun e w' => e = .returned (.bool true) ∧ W.grownBy w' none) := Lib.hid fun W hW hg => by
    have := rightS_calls B Ap As np cp ns cs ps ss (by omega) (by omega) W hW (hp.grown hg hB (by simp)) (hs.grown hg hB (by simp)) (Nat.le_trans hB hg.size)
    rw [hr] at this
    exact this
  obtain ⟨L, hL⟩ : ∃ L, stBits ps ss = L := ⟨_, rfl⟩
  rw [hL]
  have HLE := Lib.hid hL
  clear hgl hp hs hr hr1 hr2 hL
  have c0 := HD0.out.cells
  go_enter Tryz.func8, Tryz.ntmps8
  go_wp2_with fail
  refine (HR0.out _ HD0.out.gl).mono ?_
  rintro e w1 ⟨rfl, hg⟩
  have HD1 := Lib.hid (HD0.out.grown hg)
  have c1 := HD1.out.cells
  clear hg c0
  go_wp2_with fail
  refine (HRN.out _ HD1.out.gl HD1.out.gr).mono ?_
  rintro e w2 ⟨rfl, hg⟩
  have HD2 := Lib.hid ((HD1.out.grown hg).grown (World.grownBy_alloc w2 (.cells #[.slice none 0 0, .int .i64 0] 108) none))
  have HW2 := Lib.hid (wr_new w2)
  have HB2 : Hid (w.heap.size + 1 < w2.heap.size) := Lib.hid (Nat.lt_of_lt_of_le HD1.out.b3.lt hg.size)
  have c2 := HD2.out.cells
  clear hg c1
  go_wp2_with fail
  obtain ⟨W2, hW2⟩ : ∃ W2, w2.alloc (.cells #[.slice none 0 0, .int .i64 0] 108) = W2 := ⟨_, rfl⟩
  obtain ⟨gw, hgw⟩ : ∃ gw, w2.heap.size = gw := ⟨_, rfl⟩
  rw [hW2] at HD2 HW2 c2 ⊢
  rw [hgw] at HW2 HB2 ⊢
  have HGW : Hid (gw < W2.heap.size) := Lib.hid (HW2.out.blk.lt)
  clear hW2 hgw
  go_region_held3 (fun W => W.cell? ⟨0, 0, none⟩ = some (.int .i64 14) ∧ W.cell? ⟨0, 1, none⟩ = some (.int .i64 6) ∧ W.cell? ⟨0, 2, none⟩ = some (.int .i64 8) ∧
    W.cell? ⟨1, 0, none⟩ = some (.int .i64 10) ∧ W.cell? ⟨1, 1, none⟩ = some (.int .i64 9) ∧ W.cell? ⟨1, 2, none⟩ = some (.int .i64 64) ∧
    W.cell? ⟨w.heap.size, 0, none⟩ = some (.slice none 0 0) ∧ W.cell? ⟨w.heap.size, 1, none⟩ = some (.slice none 0 0) ∧ W.cell? ⟨w.heap.size + 1, 0, none⟩ = some (.slice Ap np cp) ∧ W.cell? ⟨w.heap.size + 1, 1, none⟩ = some (.slice As ns cs)) (go_keep)
    (first
      | (go_at_call 45; have hrow := HRW4.out; refine (writeRows_calls 14 6 8 (findNone14 6 8) gw np c4 w3.heap.size A4 (ps.map Pl.row) [] (.slice none 0 0) w4 HW4.out hrow (Nat.lt_of_lt_of_le HGW.out HS3.out) (fun k e => by cases e) hnp (by decide) rows14 HR1.out (by decide)).mono ?_; rintro e w5 ⟨rfl, v5, hs5⟩; have HS5 := Lib.hid hs5; have HD5 := Lib.hid (HD4.out.frm hs5.fr HB2.out (fun k e => by cases e) h2w); clear hs5 hrow; have hk5 := HD5.out.cells)
      | (go_at_call 29; have hx := HD3.out; refine (eachPlayer_calls B np cp Ap ps (by omega) w3 (HP.out.grown hx.gr hB (by simp)) (Nat.le_trans hB hx.gr.size)).mono ?_; rintro e w4 ⟨A4, c4, rfl, hg, hrows⟩; have HD4 := Lib.hid (hx.grown hg); have HW4 := Lib.hid (HW3.out.grown hg); have HRW4 := Lib.hid hrows; clear hx hg hrows; have hk4 := HD4.out.cells)
      | (go_at_call 29; refine (each0P_calls none 0 _ _).mono ?_; rintro e w3 ⟨rfl, hg⟩; have HD3 := Lib.hid (HD2.out.grown (drew_grown hg)); have HW3 := Lib.hid (HW2.out.grown (drew_grown hg)); have HS3 := Lib.hid ((drew_grown hg).size); clear hg; have hk3 := HD3.out.cells))
  go_wp2_with fail
  have HV5 : Hid (∀ k, v5.ownBlock = some k → w.heap.size + 1 < k ∧ k < w5.heap.size) := Lib.hid fun k e => by
    have h1 := HS5.out.wr_.row_lt k e
    rcases HS5.out.ow with h | h
    · rw [h] at e; cases e
    · have := h k e; have := HD4.out.b3.lt; omega
  have HW5 := Lib.hid HS5.out.wr_
  have HSZ5 : Hid (gw < w5.heap.size) := Lib.hid HS5.out.wr_.blk.lt
  obtain ⟨L1, hL1⟩ : ∃ L1, [] ++ rowsBits 6 (ps.map Pl.row) = L1 := ⟨_, rfl⟩
  rw [hL1] at HW5
  have HL1E := Lib.hid hL1
  have HL1 : Hid (L1.length ≤ 4000) := Lib.hid (by
    rw [← hL1, List.nil_append]
    have := rowsBits_le 6 14 8 (ps.map Pl.row) (fun r hr => by rw [rows14 r hr]; omega) (by have := (right_facts HR1.out).2.2; omega)
    omega)
  clear hk3 hk4 c2 hL1
  go_region_held3 (fun W => W.cell? ⟨0, 0, none⟩ = some (.int .i64 14) ∧ W.cell? ⟨0, 1, none⟩ = some (.int .i64 6) ∧ W.cell? ⟨0, 2, none⟩ = some (.int .i64 8) ∧
    W.cell? ⟨1, 0, none⟩ = some (.int .i64 10) ∧ W.cell? ⟨1, 1, none⟩ = some (.int .i64 9) ∧ W.cell? ⟨1, 2, none⟩ = some (.int .i64 64) ∧
    W.cell? ⟨w.heap.size, 0, none⟩ = some (.slice none 0 0) ∧ W.cell? ⟨w.heap.size, 1, none⟩ = some (.slice none 0 0) ∧ W.cell? ⟨w.heap.size + 1, 0, none⟩ = some (.slice Ap np cp) ∧ W.cell? ⟨w.heap.size + 1, 1, none⟩ = some (.slice As ns cs)) (go_keep)
    (first
      | (go_at_call 45; have hrow := HRW7.out; refine (writeRows_calls 10 9 64 (findNone10 9 64) gw ns c7 w6.heap.size A7 (ss.map Sh.row) L1 v5 w7 HW7.out hrow (Nat.lt_of_lt_of_le HSZ5.out HS6.out) (fun k e => Nat.lt_of_lt_of_le (HV5.out k e).2 HS6.out) hns (by decide) rows10 HR2.out (by have := HL1.out; omega)).mono ?_; rintro e w8 ⟨rfl, v8, hs8⟩; have HS8 := Lib.hid hs8; have HD8 := Lib.hid (HD7.out.frm hs8.fr HB2.out (fun k e => (HV5.out k e).1) h2w); clear hs8 hrow; have hk8 := HD8.out.cells)
      | (go_at_call 31; have hx := HD6.out; refine (eachShot_calls B ns cs As ss (by omega) w6 (HS.out.grown hx.gr hB (by simp)) (Nat.le_trans hB hx.gr.size)).mono ?_; rintro e w7 ⟨A7, c7, rfl, hg, hrows⟩; have HD7 := Lib.hid (hx.grown hg); have HW7 := Lib.hid (HW6.out.grown hg); have HRW7 := Lib.hid hrows; clear hx hg hrows; have hk7 := HD7.out.cells)
      | (go_at_call 31; refine (each0S_calls none 0 _ _).mono ?_; rintro e w6 ⟨rfl, hg⟩; have HD6 := Lib.hid (HD5.out.grown (drew_grown hg)); have HW6 := Lib.hid (HW5.out.grown (drew_grown hg)); have HS6 := Lib.hid ((drew_grown hg).size); clear hg; have hk6 := HD6.out.cells))
  have hbits : L1 ++ rowsBits 9 (ss.map Sh.row) = L := by rw [← HL1E.out, ← HLE.out]; rfl
  have HW8 : Hid (Wr w8 gw L v8) := Lib.hid (by have := HS8.out.wr_; rwa [hbits] at this)
  have HLS : Hid (L.length ≤ 1000000) := Lib.hid (by
    rw [← hbits, List.length_append]
    have h1 := HL1.out
    have h2 := rowsBits_le 9 10 64 (ss.map Sh.row) (fun r hr => by rw [rows10 r hr]; omega) (by have := (right_facts HR2.out).2.2; omega)
    omega)
  clear hbits
  have HBY := Lib.hid (bytes_calls gw L HLS.out v8 w8 HW8.out)
  go_wp2_with fail
  refine HBY.out.mono ?_
  rintro e w9 ⟨A9, c9, rfl, ho, hg⟩
  have HO := Lib.hid ho
  have HG := Lib.hid (HD8.out.gr.trans hg)
  have HSZ : Hid (w.heap.size ≤ w8.heap.size) := Lib.hid HD8.out.gr.size
  clear ho hg
  go_wp2_with fail
  go_ret
  refine ⟨A9, c9, rfl, ⟨HO.out.1, ?_⟩, HG.out⟩
  rcases HO.out.2 with h | ⟨g, cap, cur, hv, hb, rest⟩
  · exact .inl h
  · exact .inr ⟨g, cap, cur, hv, Nat.le_trans HSZ.out hb, rest⟩
end Go.Proofs.YtbilegkffooioaaGreatDoor
