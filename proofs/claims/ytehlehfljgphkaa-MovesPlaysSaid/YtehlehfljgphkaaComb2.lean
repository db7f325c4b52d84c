/-
  The document's Combine, walked.
-/
import Derived.Test.YtehlehfljgphkaaComb
namespace Go.Proofs.Ytehlehfljgphkaa
open Go.RowKit

theorem ref_cases (sa ba xa ya ta sb bb xb yb tb : Int) : (rightB ⟨sa, ba, xa, ya, ta⟩ = false) ∨ (rightB ⟨sa, ba, xa, ya, ta⟩ = true ∧ rightB ⟨sb, bb, xb, yb, tb⟩ = false) ∨ (rightB ⟨sa, ba, xa, ya, ta⟩ = true ∧ rightB ⟨sb, bb, xb, yb, tb⟩ = true ∧ (ba == bb) = false) ∨ (rightB ⟨sa, ba, xa, ya, ta⟩ = true ∧ rightB ⟨sb, bb, xb, yb, tb⟩ = true ∧ (ba == bb) = true ∧ (xa == xb) = false) ∨ (rightB ⟨sa, ba, xa, ya, ta⟩ = true ∧ rightB ⟨sb, bb, xb, yb, tb⟩ = true ∧ (ba == bb) = true ∧ (xa == xb) = true ∧ (ya == yb) = false) ∨ (rightB ⟨sa, ba, xa, ya, ta⟩ = true ∧ rightB ⟨sb, bb, xb, yb, tb⟩ = true ∧ (ba == bb) = true ∧ (xa == xb) = true ∧ (ya == yb) = true) := by
  rcases h0 : rightB ⟨sa, ba, xa, ya, ta⟩ with _ | _ <;> rcases h1 : rightB ⟨sb, bb, xb, yb, tb⟩ with _ | _ <;> rcases h3 : (ba == bb) with _ | _ <;> rcases h4 : (xa == xb) with _ | _ <;> rcases h5 : (ya == yb) with _ | _ <;> simp
theorem bne_of_f {a b : Int} (h : (a == b) = false) : (a != b) = true := by simp [bne, h]
theorem bne_of_t {a b : Int} (h : (a == b) = true) : (a != b) = false := by simp [bne, h]
theorem rightB_b {c : Cmd} (h : rightB c = true) : c.btn ≤ 3 ∧ 1 ≤ c.ticks ∧ c.ticks ≤ 8 := by simpa [rightB] using h
theorem wrap_right {a b : Cmd} (ha : rightB a = true) (hb : rightB b = true) : IntKind.i64.wrap (a.ticks + b.ticks) = a.ticks + b.ticks := by
  have h1 := rightB_b ha
  have h2 := rightB_b hb
  exact IntWalk.i64_in _ (by omega)
theorem rightB_both {a b : Cmd} (ha : rightB a = true) (hb : rightB b = true) : rightB (both a b) = decide (a.ticks + b.ticks ≤ 8) := by
  have h1 := rightB_b ha
  have h2 := rightB_b hb
  unfold both rightB
  rw [wrap_right ha hb]
  have e1 : b.btn ≤ 3 := h2.1
  have e2 : 1 ≤ a.ticks + b.ticks := by omega
  simp [e1, e2]

set_option maxRecDepth 100000 in
set_option maxHeartbeats 4000000 in
theorem refcombine_calls (sa ba xa ya ta sb bb xb yb tb : Int) (hsa : 0 ≤ sa ∧ sa < 65536) (hsb : 0 ≤ sb ∧ sb < 65536) (w : World) :
    Calls Try.prog 21 #[.agg #[.int .u16 sa, .int .u8 ba, .int .i8 xa, .int .i8 ya, .int .i64 ta], .agg #[.int .u16 sb, .int .u8 bb, .int .i8 xb, .int .i8 yb, .int .i64 tb]] w fun e w' =>
      e = .returned (.tuple #[(comb ⟨sa, ba, xa, ya, ta⟩ ⟨sb, bb, xb, yb, tb⟩).val, .bool (okB ⟨sa, ba, xa, ya, ta⟩ ⟨sb, bb, xb, yb, tb⟩)]) ∧ w.grownBy w' none := by
  have HD := Lib.hid (fun W => refdist_calls sb sa W hsb hsa)
  rcases ref_cases sa ba xa ya ta sb bb xb yb tb with ⟨h0⟩ | ⟨h0, h1⟩ | ⟨h0, h1, h2⟩ | ⟨h0, h1, h2, h3⟩ | ⟨h0, h1, h2, h3, h4⟩ | ⟨h0, h1, h2, h3, h4⟩
  · have hok : okB ⟨sa, ba, xa, ya, ta⟩ ⟨sb, bb, xb, yb, tb⟩ = false := by simp [okB, sameB, h0]
    have hcm : comb ⟨sa, ba, xa, ya, ta⟩ ⟨sb, bb, xb, yb, tb⟩ = ⟨0, 0, 0, 0, 0⟩ := by unfold comb; rw [hok]; rfl
    rw [hok, hcm]
    clear hok hcm
    go_enter Try.func21, Try.ntmps21
    go_wp2_with (first
      | (go_at_call 22; refine (refright_calls _ _ _ _ _ _).mono ?_; rintro e w1 ⟨rfl, rfl⟩)
      | (go_at_call 28; refine (HD.out _).mono ?_; rintro e w1 ⟨rfl, rfl⟩))
    all_goals exact bodyPost_ret (v := .tuple #[.agg #[.int .u16 0, .int .u8 0, .int .i8 0, .int .i8 0, .int .i64 0], .bool false]) (by simp [results, Try.results21, go_sem]) rfl ⟨rfl, by repeat (first | exact World.grownBy.refl _ _ | refine only_trans ?_ (World.grownBy_alloc _ _ none))⟩
  · have hok : okB ⟨sa, ba, xa, ya, ta⟩ ⟨sb, bb, xb, yb, tb⟩ = false := by simp [okB, sameB, h0, h1]
    have hcm : comb ⟨sa, ba, xa, ya, ta⟩ ⟨sb, bb, xb, yb, tb⟩ = ⟨0, 0, 0, 0, 0⟩ := by unfold comb; rw [hok]; rfl
    rw [hok, hcm]
    clear hok hcm
    go_enter Try.func21, Try.ntmps21
    go_wp2_with (first
      | (go_at_call 22; refine (refright_calls _ _ _ _ _ _).mono ?_; rintro e w1 ⟨rfl, rfl⟩)
      | (go_at_call 28; refine (HD.out _).mono ?_; rintro e w1 ⟨rfl, rfl⟩))
    all_goals exact bodyPost_ret (v := .tuple #[.agg #[.int .u16 0, .int .u8 0, .int .i8 0, .int .i8 0, .int .i64 0], .bool false]) (by simp [results, Try.results21, go_sem]) rfl ⟨rfl, by repeat (first | exact World.grownBy.refl _ _ | refine only_trans ?_ (World.grownBy_alloc _ _ none))⟩
  · have n2 := bne_of_f h2
    have hok : okB ⟨sa, ba, xa, ya, ta⟩ ⟨sb, bb, xb, yb, tb⟩ = false := by simp [okB, sameB, h0, h1, h2]
    have hcm : comb ⟨sa, ba, xa, ya, ta⟩ ⟨sb, bb, xb, yb, tb⟩ = ⟨0, 0, 0, 0, 0⟩ := by unfold comb; rw [hok]; rfl
    rw [hok, hcm]
    clear hok hcm
    go_enter Try.func21, Try.ntmps21
    go_wp2_with (first
      | (go_at_call 22; refine (refright_calls _ _ _ _ _ _).mono ?_; rintro e w1 ⟨rfl, rfl⟩)
      | (go_at_call 28; refine (HD.out _).mono ?_; rintro e w1 ⟨rfl, rfl⟩))
    all_goals exact bodyPost_ret (v := .tuple #[.agg #[.int .u16 0, .int .u8 0, .int .i8 0, .int .i8 0, .int .i64 0], .bool false]) (by simp [results, Try.results21, go_sem]) rfl ⟨rfl, by repeat (first | exact World.grownBy.refl _ _ | refine only_trans ?_ (World.grownBy_alloc _ _ none))⟩
  · have n2 := bne_of_t h2
    have n3 := bne_of_f h3
    have hok : okB ⟨sa, ba, xa, ya, ta⟩ ⟨sb, bb, xb, yb, tb⟩ = false := by simp [okB, sameB, h0, h1, h2, h3]
    have hcm : comb ⟨sa, ba, xa, ya, ta⟩ ⟨sb, bb, xb, yb, tb⟩ = ⟨0, 0, 0, 0, 0⟩ := by unfold comb; rw [hok]; rfl
    rw [hok, hcm]
    clear hok hcm
    go_enter Try.func21, Try.ntmps21
    go_wp2_with (first
      | (go_at_call 22; refine (refright_calls _ _ _ _ _ _).mono ?_; rintro e w1 ⟨rfl, rfl⟩)
      | (go_at_call 28; refine (HD.out _).mono ?_; rintro e w1 ⟨rfl, rfl⟩))
    all_goals exact bodyPost_ret (v := .tuple #[.agg #[.int .u16 0, .int .u8 0, .int .i8 0, .int .i8 0, .int .i64 0], .bool false]) (by simp [results, Try.results21, go_sem]) rfl ⟨rfl, by repeat (first | exact World.grownBy.refl _ _ | refine only_trans ?_ (World.grownBy_alloc _ _ none))⟩
  · have n2 := bne_of_t h2
    have n3 := bne_of_t h3
    have n4 := bne_of_f h4
    have hok : okB ⟨sa, ba, xa, ya, ta⟩ ⟨sb, bb, xb, yb, tb⟩ = false := by simp [okB, sameB, h0, h1, h2, h3, h4]
    have hcm : comb ⟨sa, ba, xa, ya, ta⟩ ⟨sb, bb, xb, yb, tb⟩ = ⟨0, 0, 0, 0, 0⟩ := by unfold comb; rw [hok]; rfl
    rw [hok, hcm]
    clear hok hcm
    go_enter Try.func21, Try.ntmps21
    go_wp2_with (first
      | (go_at_call 22; refine (refright_calls _ _ _ _ _ _).mono ?_; rintro e w1 ⟨rfl, rfl⟩)
      | (go_at_call 28; refine (HD.out _).mono ?_; rintro e w1 ⟨rfl, rfl⟩))
    all_goals exact bodyPost_ret (v := .tuple #[.agg #[.int .u16 0, .int .u8 0, .int .i8 0, .int .i8 0, .int .i64 0], .bool false]) (by simp [results, Try.results21, go_sem]) rfl ⟨rfl, by repeat (first | exact World.grownBy.refl _ _ | refine only_trans ?_ (World.grownBy_alloc _ _ none))⟩
  · have n2 := bne_of_t h2
    have n3 := bne_of_t h3
    have n4 := bne_of_t h4
    have r1 := rightB_b h0
    have r2 := rightB_b h1
    have r3 := rightB_both h0 h1
    have r4 := wrap_right h0 h1
    dsimp only at r1 r2 r3 r4
    have hok : okB ⟨sa, ba, xa, ya, ta⟩ ⟨sb, bb, xb, yb, tb⟩ = (decide (ta + tb ≤ 8) && decide (0 < dist sb sa)) := by simp [okB, sameB, newer, h0, h1, h2, h3, h4, r3]
    have hbt : both ⟨sa, ba, xa, ya, ta⟩ ⟨sb, bb, xb, yb, tb⟩ = ⟨sb, bb, xb, yb, ta + tb⟩ := by unfold both; dsimp only; rw [r4]
    clear r3 r4
    obtain ⟨r1a, r1b, r1c⟩ := r1
    obtain ⟨r2a, r2b, r2c⟩ := r2
    have hdl := dist_lo sb sa
    obtain ⟨d, hd⟩ : ∃ d, dist sb sa = d := ⟨_, rfl⟩
    rw [hd] at hok HD hdl
    clear hd
    by_cases c1 : d ≤ 0
    · have hok2 : okB ⟨sa, ba, xa, ya, ta⟩ ⟨sb, bb, xb, yb, tb⟩ = false := by rw [hok, decide_eq_false (show ¬ 0 < d by omega)]; simp
      have hcm : comb ⟨sa, ba, xa, ya, ta⟩ ⟨sb, bb, xb, yb, tb⟩ = ⟨0, 0, 0, 0, 0⟩ := by unfold comb; rw [hok2]; rfl
      rw [hok2, hcm]
      clear hok hok2 hcm hbt
      go_enter Try.func21, Try.ntmps21
      go_wp2_with (first
        | (go_at_call 22; refine (refright_calls _ _ _ _ _ _).mono ?_; rintro e w1 ⟨rfl, rfl⟩)
        | (go_at_call 28; refine (HD.out _).mono ?_; rintro e w1 ⟨rfl, rfl⟩))
      all_goals exact bodyPost_ret (v := .tuple #[.agg #[.int .u16 0, .int .u8 0, .int .i8 0, .int .i8 0, .int .i64 0], .bool false]) (by simp [results, Try.results21, go_sem]) rfl ⟨rfl, by repeat (first | exact World.grownBy.refl _ _ | refine only_trans ?_ (World.grownBy_alloc _ _ none))⟩
    · by_cases c2 : 8 < ta + tb
      · have hok2 : okB ⟨sa, ba, xa, ya, ta⟩ ⟨sb, bb, xb, yb, tb⟩ = false := by rw [hok, decide_eq_false (show ¬ ta + tb ≤ 8 by omega)]; simp
        have hcm : comb ⟨sa, ba, xa, ya, ta⟩ ⟨sb, bb, xb, yb, tb⟩ = ⟨0, 0, 0, 0, 0⟩ := by unfold comb; rw [hok2]; rfl
        rw [hok2, hcm]
        clear hok hok2 hcm hbt
        have c1b : decide (d ≤ 0) = false := by simpa using c1
        go_enter Try.func21, Try.ntmps21
        go_wp2_with (first
          | (go_at_call 22; refine (refright_calls _ _ _ _ _ _).mono ?_; rintro e w1 ⟨rfl, rfl⟩)
          | (go_at_call 28; refine (HD.out _).mono ?_; rintro e w1 ⟨rfl, rfl⟩))
        all_goals exact bodyPost_ret (v := .tuple #[.agg #[.int .u16 0, .int .u8 0, .int .i8 0, .int .i8 0, .int .i64 0], .bool false]) (by simp [results, Try.results21, go_sem]) rfl ⟨rfl, by repeat (first | exact World.grownBy.refl _ _ | refine only_trans ?_ (World.grownBy_alloc _ _ none))⟩
      · have hok2 : okB ⟨sa, ba, xa, ya, ta⟩ ⟨sb, bb, xb, yb, tb⟩ = true := by rw [hok, decide_eq_true (show ta + tb ≤ 8 by omega), decide_eq_true (show 0 < d by omega)]; rfl
        have hcm : comb ⟨sa, ba, xa, ya, ta⟩ ⟨sb, bb, xb, yb, tb⟩ = ⟨sb, bb, xb, yb, ta + tb⟩ := by unfold comb; rw [hok2, hbt]; rfl
        rw [hok2, hcm]
        clear hok hok2 hcm hbt
        have c1b : decide (d ≤ 0) = false := by simpa using c1
        go_enter Try.func21, Try.ntmps21
        go_wp2_with (first
          | (go_at_call 22; refine (refright_calls _ _ _ _ _ _).mono ?_; rintro e w1 ⟨rfl, rfl⟩)
          | (go_at_call 28; refine (HD.out _).mono ?_; rintro e w1 ⟨rfl, rfl⟩))
        all_goals exact bodyPost_ret (v := .tuple #[.agg #[.int .u16 sb, .int .u8 bb, .int .i8 xb, .int .i8 yb, .int .i64 (ta + tb)], .bool true]) (by simp [results, Try.results21, go_sem]) rfl ⟨rfl, by repeat (first | exact World.grownBy.refl _ _ | refine only_trans ?_ (World.grownBy_alloc _ _ none))⟩
end Go.Proofs.Ytehlehfljgphkaa
