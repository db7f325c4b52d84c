/-
  The law SequenceWindowOnce, walked: for any first number and any steps it returns true and writes nothing that was there.
-/
import Derived.Test.YthcianalnhdgjaaOnceM
namespace Go.Proofs.Ythcianalnhdgjaa
open Go.RowKit

/-- Where the play stands behind k steps: nothing was accepted yet, or the window in block g and the map in block b agree. -/
def Play (wr : World) (first : Int) (g b : Nat) (at_ newest : Int) (k : Nat) : Prop :=
  (k = 0 ∧ at_ = 0 ∧ newest = 0 ∧ Win wr g false 0 0 ∧ Seen wr b 0 fun _ => false) ∨
  (1 ≤ k ∧ ∃ f last bits, Inv first newest f last bits ∧ Win wr g true last bits ∧ Seen wr b k f ∧ at_ ≤ newest ∧ 0 ≤ newest ∧ newest ≤ 100 * k ∧ newest - at_ ≤ 100 * k)
/-- What a round's last part knows. -/
structure Mid (wr : World) (first : Int) (g b : Nat) (at_ newest : Int) (k : Nat) (f : Int → Bool) (last : Int) (bits : Nat) : Prop where
  inv : Inv first newest f last bits
  win : Win wr g true last bits
  seen : Seen wr b (k + 1) f
  le : at_ ≤ newest
  lo : 0 ≤ newest
  hi : newest ≤ 100 * (k + 1)
  near : newest - at_ ≤ 100 * (k + 1)

theorem Play.of_mid {wr : World} {first : Int} {g b : Nat} {at_ newest : Int} {k : Nat} {f : Int → Bool} {last : Int} {bits : Nat} (h : Mid wr first g b at_ newest k f last bits) (q : Nat) : Play (wr.drewN q) first g b at_ newest (k + 1) :=
  .inr ⟨by omega, f, last, bits, h.inv, h.win.drawn q, h.seen.drewN q, h.le, h.lo, by have := h.hi; omega, by have := h.near; omega⟩
theorem Seen.more {w : World} {b n : Nat} {f : Int → Bool} (h : Seen w b n f) : Seen w b (n + 1) f := by
  obtain ⟨D, h1, h2⟩ := h
  exact ⟨D, h1.mono (Nat.le_succ n), h2⟩
theorem acked_any {last : Int} {bits : Nat} {n : Int} {y : Bool} (w : World) (q : Nat) (hb : bits < 4294967296) (hy : acked last bits n = y) :
    Calls Try.prog 14 #[.int .u16 last, .int .u32 (bits : Int), .int .u16 n] (w.drewN q) fun e w'' => e = .returned (.bool y) ∧ ∃ m, w'' = w.drewN m :=
  (acked_calls last bits n (w.drewN q) hb).mono fun _ _ ⟨he, hw⟩ => ⟨by rw [he, hy], q, hw.symm⟩

set_option maxRecDepth 100000 in
set_option maxHeartbeats 1000000 in
theorem once (first : Int) (A : Option Addr) (m cap : Nat) (l : List Int) (w : World) (hm : m ≤ 9223372036854775807)
    (hR : Rd w w.heap.size A m (l.map (Value.int .i64))) :
    Calls Try.prog 4 #[.int .u16 first, .slice A m cap] w fun e w' => e = .returned (.bool true) ∧ Below w.heap.size w w' := by
  have HR := Lib.hid hR
  clear hR
  have kmk := run_makeSeen
  go_enter Try.func4, Try.ntmps4
  go_wp2_with fail
  refine (shown_calls w).mono ?_
  rintro e w1 ⟨rfl, hB1⟩
  have HB1 := Lib.hid hB1
  have HZ := Lib.hid hB1.size
  clear hB1
  go_wp2_with fail
  obtain ⟨w2, hw2⟩ : ∃ w2, (w1.alloc (.cells #[.bool false, .int .u16 0, .int .u32 0] 32)).alloc (.map #[] 0) = w2 := ⟨_, rfl⟩
  have hB2 : Below w.heap.size w w2 := by rw [← hw2]; exact (HB1.out.alloc HB1.out.size _).alloc (by have := HB1.out.size; simp; omega) _
  have hP2 : Play w2 first w1.heap.size (w1.heap.size + 1) 0 0 0 := .inl ⟨rfl, rfl, rfl, by rw [← hw2]; exact Blk.alloc (Win.new w1) _, by
    rw [← hw2]
    have := Seen.made (w1.alloc (.cells #[.bool false, .int .u16 0, .int .u32 0] 32))
    simpa using this⟩
  obtain ⟨g, hg⟩ : ∃ g, w1.heap.size = g := ⟨_, rfl⟩
  obtain ⟨b, hb⟩ : ∃ b, g + 1 = b := ⟨_, rfl⟩
  rw [hw2]
  rw [hg, hb] at hP2
  rw [hg] at HZ
  rw [hg, hb]
  have HP2 := Lib.hid hP2
  have HB2 := Lib.hid hB2
  have Hgb := Lib.hid hb
  clear hw2 hP2 hB2 hg hb kmk HB1
  go_loopw [8, 9, 10] (fun a n i wr => ∃ (at_ newest : Int) (k : Nat), k ≤ m ∧ k ≤ 200 ∧ a = .int .i64 at_ ∧ n = .int .i64 newest ∧ i = .int .i64 k ∧ Hid (Play wr first g b at_ newest k) ∧ Hid (Below w.heap.size w wr)) (fun _ _ i _ => m - (intOf i).toNat)
  case atStart => exact ⟨0, 0, 0, by omega, by omega, rfl, rfl, rfl, HP2, HB2⟩
  case round =>
    obtain ⟨at_, newest, k, hk, hk200, rfl, rfl, rfl, HP, HL⟩ := hrel
    by_cases hlt : k < m ∧ k < 200
    · obtain ⟨hlt, hlt200⟩ := hlt
      rcases HP.out with ⟨rfl, h0a, h0n, hwin, hseen⟩ | ⟨hk1, f, last, bits, hinv, hwin, hseen, hle, hlo, hhi, hnear⟩
      · have HW := Lib.hid hwin
        have HS := Lib.hid hseen
        have h0b : at_ ≤ 0 := by omega
        have h0c : 0 ≤ at_ := by omega
        have h0d : newest ≤ 0 := by omega
        have h0e : 0 ≤ newest := by omega
        have Ha := Lib.hid h0a
        have Hn := Lib.hid h0n
        clear hwin hseen HP h0a h0n
        obtain ⟨p, rfl⟩ : ∃ p, p = at_ := ⟨_, rfl⟩
        have hmx : ¬ newest < p := by omega
        obtain ⟨n0, hn0⟩ : ∃ n0, (first + p) % 65536 = n0 := ⟨_, rfl⟩
        have en : IntKind.u16.wrap (first + IntKind.u16.wrap p) = n0 := by rw [IntKind.wrap_u16, IntKind.wrap_u16, ← hn0]; omega
        have en2 : IntKind.u16.wrap (first + p) = n0 := by rw [IntKind.wrap_u16, ← hn0]
        have HN := Lib.hid hn0
        clear hn0
        go_wp2_with fail
        refine (accept_calls g false 0 0 n0 wr HW.out (by decide)).mono ?_
        rintro e w3 ⟨rfl, hW3, hg3⟩
        have ok1 : accOk false 0 0 n0 = true := rfl
        rw [ok1]
        have HW3 : Hid (Win w3 g true n0 0) := Lib.hid hW3
        have HL3 := Lib.hid (HL.out.grown hg3 HL.out.size (fun q e => by cases e; exact HZ.out))
        have HS3 := Lib.hid (HS.out.kept hg3 (by have := Hgb.out; simp; omega))
        clear hW3 hg3 ok1 en en2
        obtain ⟨w4, hrun4, hS4, hg4⟩ := HS3.out.store (by unfold maxLen; omega) p (by omega) (by omega)
        have HL4 := Lib.hid (HL3.out.grown hg4 HL3.out.size (fun q e => by cases e; have := HZ.out; have := Hgb.out; omega))
        obtain ⟨fv, la, bv_, HM⟩ : ∃ fv la bv_, Hid (Mid w4 first g b p newest 0 fv la bv_) := ⟨mark (fun _ => false) p, n0, 0, Lib.hid ⟨by
          have h1 := HN.out; have h2 := Ha.out; have h3 := Hn.out; rw [h2] at h1; rw [← h1, h2, h3]; exact Inv.start first, Blk.grown HW3.out hg4 (by have := Hgb.out; simp; omega), hS4, by omega, by omega, by omega, by omega⟩⟩
        clear hS4 hg4
        go_wp2_with fail
        have HM' := HM
        refine (ack_calls g true la bv_ w4 HM.out.win).mono ?_
        rintro e w5 ⟨rfl, q5, rfl⟩
        have hlast := HM.out.inv.last_eq
        have el : IntKind.u16.wrap (first + IntKind.u16.wrap newest) = la := by rw [IntKind.wrap_u16, IntKind.wrap_u16, hlast]; omega
        have el2 : IntKind.u16.wrap (first + newest) = la := by rw [IntKind.wrap_u16, hlast]
        clear hlast
        go_wp2_with fail
        clear el el2
        go_loopw [16] (fun i wr => ∃ j : Nat, j ≤ 33 ∧ i = .int .i64 j ∧ Hid (∃ q, wr = w4.drewN q)) (fun i _ => 33 - (intOf i).toNat)
        case atStart => exact ⟨0, by omega, rfl, Lib.hid ⟨q5, rfl⟩⟩
        case round =>
          obtain ⟨j, hj, rfl, HQ⟩ := hrel
          have hnv1 : -20000 ≤ newest := by omega
          have hnv2 : newest ≤ 20100 := by omega
          by_cases hj33 : j < 33
          · obtain ⟨z, hz⟩ : ∃ z, (la - (j : Int)) % 65536 = z := ⟨_, rfl⟩
            have ez : IntKind.u16.wrap (la - IntKind.u16.wrap (j : Int)) = z := by rw [IntKind.wrap_u16, IntKind.wrap_u16, ← hz]; omega
            have ez2 : IntKind.u16.wrap (la - (j : Int)) = z := by rw [IntKind.wrap_u16, ← hz]
            have htell := HM.out.inv.tells j (by omega)
            rw [hz] at htell
            obtain ⟨y, hy⟩ : ∃ y, fv (newest - j) = y := ⟨_, rfl⟩
            rw [hy] at htell
            have HT : Hid (∀ n, Calls Try.prog 14 #[.int .u16 la, .int .u32 (bv_ : Int), .int .u16 z] (wr.drewN n) fun e w'' => e = .returned (.bool y) ∧ ∃ m, w'' = wr.drewN m) := Lib.hid (fun n => acked_any wr n HM.out.inv.lt htell)
            have hlk : ∀ n, (Instr.lookup 33 (.map (some b)) (.int .i64 (newest - j)) false).run Try.prog (wr.drewN n) = .ok (.bool y) (wr.drewN n) := fun n => by rw [← hy]; obtain ⟨q, hq⟩ := HQ.out; rw [hq]; exact ((HM.out.seen.drewN q).drewN n).look _ (by omega) (by omega)
            have es : IntKind.i64.wrap (newest - (j : Int)) = newest - j := IntWalk.i64_in _ (by omega)
            clear hz hy htell
            have hj32 : (j : Int) ≤ 32 := by omega
            go_wp2_with fail
            go_quiet ((go_at_call 14; exact HT.out _))
            go_wp2_with fail
            go_roundw
            case rel => exact ⟨j + 1, by omega, by go_num, Lib.hid (by obtain ⟨q, hq⟩ := HQ.out; rw [hq]; exact ⟨_, World.drewN_drewN _ _ _⟩)⟩
            case measure => simp [intOf]; omega
          · obtain rfl : j = 33 := by omega
            go_wp2_with fail
            go_roundw
            case rel => exact ⟨p, newest, 0 + 1, by omega, by omega, rfl, rfl, by go_num, Lib.hid (by obtain ⟨q, hq⟩ := HQ.out; rw [hq]; exact Play.of_mid HM'.out q), Lib.hid (by obtain ⟨q, hq⟩ := HQ.out; rw [hq]; exact below_drawn HL4.out q)⟩
            case measure => simp [intOf]; omega
      · have HI := Lib.hid hinv
        have HW := Lib.hid hwin
        have HS := Lib.hid hseen
        clear hinv hwin hseen HP
        obtain ⟨bb, off, u, rfl, hbb, hu, hc0⟩ := HR.out.at_ hlt
        obtain ⟨x, hc⟩ : ∃ x : Int, w.cell? ⟨bb, off + k, none⟩ = some (.int .i64 x) := by
          rw [List.getElem?_map] at hu
          obtain ⟨x, _, rfl⟩ := Option.map_eq_some_iff.1 hu
          exact ⟨x, hc0⟩
        have hcr := (HL.out.cell (p := ⟨bb, off + k, none⟩) hbb).trans hc
        clear hc0 hu hc hbb
        have hk0 : ((k : Int) == 0) = false := beq_eq_false_iff_ne.2 (by omega)
        obtain ⟨t, ht⟩ : ∃ t, x.tmod 101 = t := ⟨_, rfl⟩
        have ht2 : -100 ≤ t ∧ t ≤ 100 := by rw [← ht]; exact tmod_hundred x
        obtain ⟨p, hp⟩ : ∃ p, at_ + t = p := ⟨_, rfl⟩
        have hp1 : newest - p ≤ 100 * (k + 1) := by omega
        have hp2 : p - newest ≤ 100 := by omega
        have hp3 : -20000 ≤ p := by omega
        have hp4 : p ≤ 20000 := by omega
        have hd1 : ¬ newest - p < -32767 := by omega
        have hd2 : ¬ 32767 < newest - p := by omega
        obtain ⟨n0, hn0⟩ : ∃ n0, (first + p) % 65536 = n0 := ⟨_, rfl⟩
        have en : IntKind.u16.wrap (first + IntKind.u16.wrap p) = n0 := by rw [IntKind.wrap_u16, IntKind.wrap_u16, ← hn0]; omega
        have en2 : IntKind.u16.wrap (first + p) = n0 := by rw [IntKind.wrap_u16, ← hn0]
        have hstep := HI.out.step (at_ := p) (by omega) (by omega)
        rw [hn0] at hstep
        obtain ⟨hs1, hs2, hs3⟩ := hstep
        have HS1 := Lib.hid hs1
        have HS2 := Lib.hid hs2
        have HS3' := Lib.hid hs3
        have HA := Lib.hid (accept_calls g true last bits n0 wr HW.out HI.out.lt)
        clear hs1 hs2 hs3 hn0
        rcases (by
          by_cases c1 : newest < p
          · exact .inl ⟨c1, trivial⟩
          · by_cases c2 : newest - 32 ≤ p
            · rcases hq : f p with _ | _
              · exact .inr (.inl ⟨by omega, c2, rfl⟩)
              · exact .inr (.inr (.inl ⟨by omega, c2, rfl⟩))
            · exact .inr (.inr (.inr ⟨by omega, c2⟩)) : (newest < p ∧ True) ∨ (p ≤ newest ∧ newest - 32 ≤ p ∧ f p = false) ∨ (p ≤ newest ∧ newest - 32 ≤ p ∧ f p = true) ∨ (p ≤ newest ∧ ¬ newest - 32 ≤ p)) with CC | CC | CC | CC
        · have c1 : newest < p := CC.1
          have hwt : wanted f newest p = true := by unfold wanted; simp [c1]
          clear CC
          have hA := HA.out
          rw [HS1.out, hwt] at hA
          have HA2 := Lib.hid hA
          have HI2 := Lib.hid (HS2.out hwt)
          clear hA hwt
          go_wp2_with fail
          refine HA2.out.mono ?_
          rintro e w3 ⟨rfl, hW3, hg3⟩
          have HW3 := Lib.hid hW3
          have HL3 := Lib.hid (HL.out.grown hg3 HL.out.size (fun q e => by cases e; exact HZ.out))
          have HS3 := Lib.hid (HS.out.kept hg3 (by have := Hgb.out; simp; omega))
          clear hW3 hg3 en en2 HA HS1
          obtain ⟨w4, hrun4, hS4, hg4⟩ := HS3.out.store (by unfold maxLen; omega) p (by omega) (by omega)
          have HL4 := Lib.hid (HL3.out.grown hg4 HL3.out.size (fun q e => by cases e; have := HZ.out; have := Hgb.out; omega))
          obtain ⟨fv, la, bv_, HM⟩ : ∃ fv la bv_, Hid (Mid w4 first g b p p k fv la bv_) := ⟨mark f p, _, _, Lib.hid ⟨by
            have h1 := HI2.out; rwa [show max newest p = p by omega] at h1, Blk.grown HW3.out hg4 (by have := Hgb.out; simp; omega), hS4, by omega, by omega, by omega, by omega⟩⟩
          clear hS4 hg4
          go_wp2_with fail
          have HM' := HM
          refine (ack_calls g true la bv_ w4 HM.out.win).mono ?_
          rintro e w5 ⟨rfl, q5, rfl⟩
          have hlast := HM.out.inv.last_eq
          have el : IntKind.u16.wrap (first + IntKind.u16.wrap p) = la := by rw [IntKind.wrap_u16, IntKind.wrap_u16, hlast]; omega
          have el2 : IntKind.u16.wrap (first + p) = la := by rw [IntKind.wrap_u16, hlast]
          clear hlast
          go_wp2_with fail
          clear el el2
          go_loopw [16] (fun i wr => ∃ j : Nat, j ≤ 33 ∧ i = .int .i64 j ∧ Hid (∃ q, wr = w4.drewN q)) (fun i _ => 33 - (intOf i).toNat)
          case atStart => exact ⟨0, by omega, rfl, Lib.hid ⟨q5, rfl⟩⟩
          case round =>
            obtain ⟨j, hj, rfl, HQ⟩ := hrel
            have hnv1 : -20000 ≤ p := by omega
            have hnv2 : p ≤ 20100 := by omega
            by_cases hj33 : j < 33
            · obtain ⟨z, hz⟩ : ∃ z, (la - (j : Int)) % 65536 = z := ⟨_, rfl⟩
              have ez : IntKind.u16.wrap (la - IntKind.u16.wrap (j : Int)) = z := by rw [IntKind.wrap_u16, IntKind.wrap_u16, ← hz]; omega
              have ez2 : IntKind.u16.wrap (la - (j : Int)) = z := by rw [IntKind.wrap_u16, ← hz]
              have htell := HM.out.inv.tells j (by omega)
              rw [hz] at htell
              obtain ⟨y, hy⟩ : ∃ y, fv (p - j) = y := ⟨_, rfl⟩
              rw [hy] at htell
              have HT : Hid (∀ n, Calls Try.prog 14 #[.int .u16 la, .int .u32 (bv_ : Int), .int .u16 z] (wr.drewN n) fun e w'' => e = .returned (.bool y) ∧ ∃ m, w'' = wr.drewN m) := Lib.hid (fun n => acked_any wr n HM.out.inv.lt htell)
              have hlk : ∀ n, (Instr.lookup 33 (.map (some b)) (.int .i64 (p - j)) false).run Try.prog (wr.drewN n) = .ok (.bool y) (wr.drewN n) := fun n => by rw [← hy]; obtain ⟨q, hq⟩ := HQ.out; rw [hq]; exact ((HM.out.seen.drewN q).drewN n).look _ (by omega) (by omega)
              have es : IntKind.i64.wrap (p - (j : Int)) = p - j := IntWalk.i64_in _ (by omega)
              clear hz hy htell
              have hj32 : (j : Int) ≤ 32 := by omega
              go_wp2_with fail
              go_quiet ((go_at_call 14; exact HT.out _))
              go_wp2_with fail
              go_roundw
              case rel => exact ⟨j + 1, by omega, by go_num, Lib.hid (by obtain ⟨q, hq⟩ := HQ.out; rw [hq]; exact ⟨_, World.drewN_drewN _ _ _⟩)⟩
              case measure => simp [intOf]; omega
            · obtain rfl : j = 33 := by omega
              go_wp2_with fail
              go_roundw
              case rel => exact ⟨p, p, k + 1, by omega, by omega, rfl, rfl, by go_num, Lib.hid (by obtain ⟨q, hq⟩ := HQ.out; rw [hq]; exact Play.of_mid HM'.out q), Lib.hid (by obtain ⟨q, hq⟩ := HQ.out; rw [hq]; exact below_drawn HL4.out q)⟩
              case measure => simp [intOf]; omega
        · have c1 : ¬ newest < p := by omega
          have c2 : newest - 32 ≤ p := CC.2.1
          have hwt : wanted f newest p = true := by unfold wanted; simp [c2, CC.2.2]
          have hfp : f p = false := CC.2.2
          clear CC
          have hA := HA.out
          rw [HS1.out, hwt] at hA
          have HA2 := Lib.hid hA
          have HI2 := Lib.hid (HS2.out hwt)
          clear hA hwt
          go_wp2_with fail
          refine HA2.out.mono ?_
          rintro e w3 ⟨rfl, hW3, hg3⟩
          have HW3 := Lib.hid hW3
          have HL3 := Lib.hid (HL.out.grown hg3 HL.out.size (fun q e => by cases e; exact HZ.out))
          have HS3 := Lib.hid (HS.out.kept hg3 (by have := Hgb.out; simp; omega))
          clear hW3 hg3 en en2 HA HS1
          have hlk : (Instr.lookup 33 (.map (some b)) (.int .i64 p) false).run Try.prog w3 = .ok (.bool false) w3 := by have := HS3.out.look p (by omega) (by omega); rwa [hfp] at this
          clear hfp
          obtain ⟨w4, hrun4, hS4, hg4⟩ := HS3.out.store (by unfold maxLen; omega) p (by omega) (by omega)
          have HL4 := Lib.hid (HL3.out.grown hg4 HL3.out.size (fun q e => by cases e; have := HZ.out; have := Hgb.out; omega))
          obtain ⟨fv, la, bv_, HM⟩ : ∃ fv la bv_, Hid (Mid w4 first g b p newest k fv la bv_) := ⟨mark f p, _, _, Lib.hid ⟨by
            have h1 := HI2.out; rwa [show max newest p = newest by omega] at h1, Blk.grown HW3.out hg4 (by have := Hgb.out; simp; omega), hS4, by omega, by omega, by omega, by omega⟩⟩
          clear hS4 hg4
          go_wp2_with fail
          have HM' := HM
          refine (ack_calls g true la bv_ w4 HM.out.win).mono ?_
          rintro e w5 ⟨rfl, q5, rfl⟩
          have hlast := HM.out.inv.last_eq
          have el : IntKind.u16.wrap (first + IntKind.u16.wrap newest) = la := by rw [IntKind.wrap_u16, IntKind.wrap_u16, hlast]; omega
          have el2 : IntKind.u16.wrap (first + newest) = la := by rw [IntKind.wrap_u16, hlast]
          clear hlast
          go_wp2_with fail
          clear el el2
          go_loopw [16] (fun i wr => ∃ j : Nat, j ≤ 33 ∧ i = .int .i64 j ∧ Hid (∃ q, wr = w4.drewN q)) (fun i _ => 33 - (intOf i).toNat)
          case atStart => exact ⟨0, by omega, rfl, Lib.hid ⟨q5, rfl⟩⟩
          case round =>
            obtain ⟨j, hj, rfl, HQ⟩ := hrel
            have hnv1 : -20000 ≤ newest := by omega
            have hnv2 : newest ≤ 20100 := by omega
            by_cases hj33 : j < 33
            · obtain ⟨z, hz⟩ : ∃ z, (la - (j : Int)) % 65536 = z := ⟨_, rfl⟩
              have ez : IntKind.u16.wrap (la - IntKind.u16.wrap (j : Int)) = z := by rw [IntKind.wrap_u16, IntKind.wrap_u16, ← hz]; omega
              have ez2 : IntKind.u16.wrap (la - (j : Int)) = z := by rw [IntKind.wrap_u16, ← hz]
              have htell := HM.out.inv.tells j (by omega)
              rw [hz] at htell
              obtain ⟨y, hy⟩ : ∃ y, fv (newest - j) = y := ⟨_, rfl⟩
              rw [hy] at htell
              have HT : Hid (∀ n, Calls Try.prog 14 #[.int .u16 la, .int .u32 (bv_ : Int), .int .u16 z] (wr.drewN n) fun e w'' => e = .returned (.bool y) ∧ ∃ m, w'' = wr.drewN m) := Lib.hid (fun n => acked_any wr n HM.out.inv.lt htell)
              have hlk : ∀ n, (Instr.lookup 33 (.map (some b)) (.int .i64 (newest - j)) false).run Try.prog (wr.drewN n) = .ok (.bool y) (wr.drewN n) := fun n => by rw [← hy]; obtain ⟨q, hq⟩ := HQ.out; rw [hq]; exact ((HM.out.seen.drewN q).drewN n).look _ (by omega) (by omega)
              have es : IntKind.i64.wrap (newest - (j : Int)) = newest - j := IntWalk.i64_in _ (by omega)
              clear hz hy htell
              have hj32 : (j : Int) ≤ 32 := by omega
              go_wp2_with fail
              go_quiet ((go_at_call 14; exact HT.out _))
              go_wp2_with fail
              go_roundw
              case rel => exact ⟨j + 1, by omega, by go_num, Lib.hid (by obtain ⟨q, hq⟩ := HQ.out; rw [hq]; exact ⟨_, World.drewN_drewN _ _ _⟩)⟩
              case measure => simp [intOf]; omega
            · obtain rfl : j = 33 := by omega
              go_wp2_with fail
              go_roundw
              case rel => exact ⟨p, newest, k + 1, by omega, by omega, rfl, rfl, by go_num, Lib.hid (by obtain ⟨q, hq⟩ := HQ.out; rw [hq]; exact Play.of_mid HM'.out q), Lib.hid (by obtain ⟨q, hq⟩ := HQ.out; rw [hq]; exact below_drawn HL4.out q)⟩
              case measure => simp [intOf]; omega
        · have c1 : ¬ newest < p := by omega
          have c2 : newest - 32 ≤ p := CC.2.1
          have hwt : wanted f newest p = false := by unfold wanted; simp [c1, CC.2.2]
          have hfp : f p = true := CC.2.2
          clear CC
          have hA := HA.out
          rw [HS1.out, hwt] at hA
          have HA2 := Lib.hid hA
          have HI2 := Lib.hid (HS3'.out hwt)
          clear hA hwt
          go_wp2_with fail
          refine HA2.out.mono ?_
          rintro e w3 ⟨rfl, hW3, hg3⟩
          have HW3 := Lib.hid hW3
          have HL3 := Lib.hid (HL.out.grown hg3 HL.out.size (fun q e => by cases e; exact HZ.out))
          have HS3 := Lib.hid (HS.out.kept hg3 (by have := Hgb.out; simp; omega))
          clear hW3 hg3 en en2 HA HS1
          have hlk : (Instr.lookup 33 (.map (some b)) (.int .i64 p) false).run Try.prog w3 = .ok (.bool true) w3 := by have := HS3.out.look p (by omega) (by omega); rwa [hfp] at this
          clear hfp
          obtain ⟨w4, rfl⟩ : ∃ w4, w4 = w3 := ⟨_, rfl⟩
          have HL4 := HL3
          obtain ⟨fv, la, bv_, HM⟩ : ∃ fv la bv_, Hid (Mid w4 first g b p newest k fv la bv_) := ⟨f, _, _, Lib.hid ⟨HI2.out, HW3.out, HS3.out.more, by omega, by omega, by omega, by omega⟩⟩
          go_wp2_with fail
          have HM' := HM
          refine (ack_calls g true la bv_ w4 HM.out.win).mono ?_
          rintro e w5 ⟨rfl, q5, rfl⟩
          have hlast := HM.out.inv.last_eq
          have el : IntKind.u16.wrap (first + IntKind.u16.wrap newest) = la := by rw [IntKind.wrap_u16, IntKind.wrap_u16, hlast]; omega
          have el2 : IntKind.u16.wrap (first + newest) = la := by rw [IntKind.wrap_u16, hlast]
          clear hlast
          go_wp2_with fail
          clear el el2
          go_loopw [16] (fun i wr => ∃ j : Nat, j ≤ 33 ∧ i = .int .i64 j ∧ Hid (∃ q, wr = w4.drewN q)) (fun i _ => 33 - (intOf i).toNat)
          case atStart => exact ⟨0, by omega, rfl, Lib.hid ⟨q5, rfl⟩⟩
          case round =>
            obtain ⟨j, hj, rfl, HQ⟩ := hrel
            have hnv1 : -20000 ≤ newest := by omega
            have hnv2 : newest ≤ 20100 := by omega
            by_cases hj33 : j < 33
            · obtain ⟨z, hz⟩ : ∃ z, (la - (j : Int)) % 65536 = z := ⟨_, rfl⟩
              have ez : IntKind.u16.wrap (la - IntKind.u16.wrap (j : Int)) = z := by rw [IntKind.wrap_u16, IntKind.wrap_u16, ← hz]; omega
              have ez2 : IntKind.u16.wrap (la - (j : Int)) = z := by rw [IntKind.wrap_u16, ← hz]
              have htell := HM.out.inv.tells j (by omega)
              rw [hz] at htell
              obtain ⟨y, hy⟩ : ∃ y, fv (newest - j) = y := ⟨_, rfl⟩
              rw [hy] at htell
              have HT : Hid (∀ n, Calls Try.prog 14 #[.int .u16 la, .int .u32 (bv_ : Int), .int .u16 z] (wr.drewN n) fun e w'' => e = .returned (.bool y) ∧ ∃ m, w'' = wr.drewN m) := Lib.hid (fun n => acked_any wr n HM.out.inv.lt htell)
              have hlk : ∀ n, (Instr.lookup 33 (.map (some b)) (.int .i64 (newest - j)) false).run Try.prog (wr.drewN n) = .ok (.bool y) (wr.drewN n) := fun n => by rw [← hy]; obtain ⟨q, hq⟩ := HQ.out; rw [hq]; exact ((HM.out.seen.drewN q).drewN n).look _ (by omega) (by omega)
              have es : IntKind.i64.wrap (newest - (j : Int)) = newest - j := IntWalk.i64_in _ (by omega)
              clear hz hy htell
              have hj32 : (j : Int) ≤ 32 := by omega
              go_wp2_with fail
              go_quiet ((go_at_call 14; exact HT.out _))
              go_wp2_with fail
              go_roundw
              case rel => exact ⟨j + 1, by omega, by go_num, Lib.hid (by obtain ⟨q, hq⟩ := HQ.out; rw [hq]; exact ⟨_, World.drewN_drewN _ _ _⟩)⟩
              case measure => simp [intOf]; omega
            · obtain rfl : j = 33 := by omega
              go_wp2_with fail
              go_roundw
              case rel => exact ⟨p, newest, k + 1, by omega, by omega, rfl, rfl, by go_num, Lib.hid (by obtain ⟨q, hq⟩ := HQ.out; rw [hq]; exact Play.of_mid HM'.out q), Lib.hid (by obtain ⟨q, hq⟩ := HQ.out; rw [hq]; exact below_drawn HL4.out q)⟩
              case measure => simp [intOf]; omega
        · have c1 : ¬ newest < p := by omega
          have c2 : ¬ newest - 32 ≤ p := CC.2
          have hwt : wanted f newest p = false := by unfold wanted; simp [c1, c2]
          clear CC
          have hA := HA.out
          rw [HS1.out, hwt] at hA
          have HA2 := Lib.hid hA
          have HI2 := Lib.hid (HS3'.out hwt)
          clear hA hwt
          go_wp2_with fail
          refine HA2.out.mono ?_
          rintro e w3 ⟨rfl, hW3, hg3⟩
          have HW3 := Lib.hid hW3
          have HL3 := Lib.hid (HL.out.grown hg3 HL.out.size (fun q e => by cases e; exact HZ.out))
          have HS3 := Lib.hid (HS.out.kept hg3 (by have := Hgb.out; simp; omega))
          clear hW3 hg3 en en2 HA HS1
          obtain ⟨w4, rfl⟩ : ∃ w4, w4 = w3 := ⟨_, rfl⟩
          have HL4 := HL3
          obtain ⟨fv, la, bv_, HM⟩ : ∃ fv la bv_, Hid (Mid w4 first g b p newest k fv la bv_) := ⟨f, _, _, Lib.hid ⟨HI2.out, HW3.out, HS3.out.more, by omega, by omega, by omega, by omega⟩⟩
          go_wp2_with fail
          have HM' := HM
          refine (ack_calls g true la bv_ w4 HM.out.win).mono ?_
          rintro e w5 ⟨rfl, q5, rfl⟩
          have hlast := HM.out.inv.last_eq
          have el : IntKind.u16.wrap (first + IntKind.u16.wrap newest) = la := by rw [IntKind.wrap_u16, IntKind.wrap_u16, hlast]; omega
          have el2 : IntKind.u16.wrap (first + newest) = la := by rw [IntKind.wrap_u16, hlast]
          clear hlast
          go_wp2_with fail
          clear el el2
          go_loopw [16] (fun i wr => ∃ j : Nat, j ≤ 33 ∧ i = .int .i64 j ∧ Hid (∃ q, wr = w4.drewN q)) (fun i _ => 33 - (intOf i).toNat)
          case atStart => exact ⟨0, by omega, rfl, Lib.hid ⟨q5, rfl⟩⟩
          case round =>
            obtain ⟨j, hj, rfl, HQ⟩ := hrel
            have hnv1 : -20000 ≤ newest := by omega
            have hnv2 : newest ≤ 20100 := by omega
            by_cases hj33 : j < 33
            · obtain ⟨z, hz⟩ : ∃ z, (la - (j : Int)) % 65536 = z := ⟨_, rfl⟩
              have ez : IntKind.u16.wrap (la - IntKind.u16.wrap (j : Int)) = z := by rw [IntKind.wrap_u16, IntKind.wrap_u16, ← hz]; omega
              have ez2 : IntKind.u16.wrap (la - (j : Int)) = z := by rw [IntKind.wrap_u16, ← hz]
              have htell := HM.out.inv.tells j (by omega)
              rw [hz] at htell
              obtain ⟨y, hy⟩ : ∃ y, fv (newest - j) = y := ⟨_, rfl⟩
              rw [hy] at htell
              have HT : Hid (∀ n, Calls Try.prog 14 #[.int .u16 la, .int .u32 (bv_ : Int), .int .u16 z] (wr.drewN n) fun e w'' => e = .returned (.bool y) ∧ ∃ m, w'' = wr.drewN m) := Lib.hid (fun n => acked_any wr n HM.out.inv.lt htell)
              have hlk : ∀ n, (Instr.lookup 33 (.map (some b)) (.int .i64 (newest - j)) false).run Try.prog (wr.drewN n) = .ok (.bool y) (wr.drewN n) := fun n => by rw [← hy]; obtain ⟨q, hq⟩ := HQ.out; rw [hq]; exact ((HM.out.seen.drewN q).drewN n).look _ (by omega) (by omega)
              have es : IntKind.i64.wrap (newest - (j : Int)) = newest - j := IntWalk.i64_in _ (by omega)
              clear hz hy htell
              have hj32 : (j : Int) ≤ 32 := by omega
              go_wp2_with fail
              go_quiet ((go_at_call 14; exact HT.out _))
              go_wp2_with fail
              go_roundw
              case rel => exact ⟨j + 1, by omega, by go_num, Lib.hid (by obtain ⟨q, hq⟩ := HQ.out; rw [hq]; exact ⟨_, World.drewN_drewN _ _ _⟩)⟩
              case measure => simp [intOf]; omega
            · obtain rfl : j = 33 := by omega
              go_wp2_with fail
              go_roundw
              case rel => exact ⟨p, newest, k + 1, by omega, by omega, rfl, rfl, by go_num, Lib.hid (by obtain ⟨q, hq⟩ := HQ.out; rw [hq]; exact Play.of_mid HM'.out q), Lib.hid (by obtain ⟨q, hq⟩ := HQ.out; rw [hq]; exact below_drawn HL4.out q)⟩
              case measure => simp [intOf]; omega
    · go_wp2_with fail
      all_goals
        go_ret
        exact ⟨rfl, HL.out⟩
end Go.Proofs.Ythcianalnhdgjaa
