/-
  Combine, walked; the document's Combine, walked.
-/
import Derived.Test.YtehlehfljgphkaaNum
namespace Go.Proofs.Ytehlehfljgphkaa
open Go.RowKit

theorem okB_cases (sa ba xa ya ta sb bb xb yb tb tt : Int) : (rightB ⟨sa, ba, xa, ya, ta⟩ = false ∧ (ba == bb) = false) ∨ (rightB ⟨sa, ba, xa, ya, ta⟩ = false ∧ (ba == bb) = true ∧ (xa == xb) = false) ∨ (rightB ⟨sa, ba, xa, ya, ta⟩ = false ∧ (ba == bb) = true ∧ (xa == xb) = true ∧ (ya == yb) = false) ∨ (rightB ⟨sa, ba, xa, ya, ta⟩ = false ∧ (ba == bb) = true ∧ (xa == xb) = true ∧ (ya == yb) = true) ∨ (rightB ⟨sa, ba, xa, ya, ta⟩ = true ∧ rightB ⟨sb, bb, xb, yb, tb⟩ = false ∧ (ba == bb) = false) ∨ (rightB ⟨sa, ba, xa, ya, ta⟩ = true ∧ rightB ⟨sb, bb, xb, yb, tb⟩ = false ∧ (ba == bb) = true ∧ (xa == xb) = false) ∨ (rightB ⟨sa, ba, xa, ya, ta⟩ = true ∧ rightB ⟨sb, bb, xb, yb, tb⟩ = false ∧ (ba == bb) = true ∧ (xa == xb) = true ∧ (ya == yb) = false) ∨ (rightB ⟨sa, ba, xa, ya, ta⟩ = true ∧ rightB ⟨sb, bb, xb, yb, tb⟩ = false ∧ (ba == bb) = true ∧ (xa == xb) = true ∧ (ya == yb) = true) ∨ (rightB ⟨sa, ba, xa, ya, ta⟩ = true ∧ rightB ⟨sb, bb, xb, yb, tb⟩ = true ∧ rightB ⟨sb, bb, xb, yb, tt⟩ = false ∧ (ba == bb) = false) ∨ (rightB ⟨sa, ba, xa, ya, ta⟩ = true ∧ rightB ⟨sb, bb, xb, yb, tb⟩ = true ∧ rightB ⟨sb, bb, xb, yb, tt⟩ = false ∧ (ba == bb) = true ∧ (xa == xb) = false) ∨ (rightB ⟨sa, ba, xa, ya, ta⟩ = true ∧ rightB ⟨sb, bb, xb, yb, tb⟩ = true ∧ rightB ⟨sb, bb, xb, yb, tt⟩ = false ∧ (ba == bb) = true ∧ (xa == xb) = true ∧ (ya == yb) = false) ∨ (rightB ⟨sa, ba, xa, ya, ta⟩ = true ∧ rightB ⟨sb, bb, xb, yb, tb⟩ = true ∧ rightB ⟨sb, bb, xb, yb, tt⟩ = false ∧ (ba == bb) = true ∧ (xa == xb) = true ∧ (ya == yb) = true) ∨ (rightB ⟨sa, ba, xa, ya, ta⟩ = true ∧ rightB ⟨sb, bb, xb, yb, tb⟩ = true ∧ rightB ⟨sb, bb, xb, yb, tt⟩ = true ∧ (ba == bb) = false) ∨ (rightB ⟨sa, ba, xa, ya, ta⟩ = true ∧ rightB ⟨sb, bb, xb, yb, tb⟩ = true ∧ rightB ⟨sb, bb, xb, yb, tt⟩ = true ∧ (ba == bb) = true ∧ (xa == xb) = false) ∨ (rightB ⟨sa, ba, xa, ya, ta⟩ = true ∧ rightB ⟨sb, bb, xb, yb, tb⟩ = true ∧ rightB ⟨sb, bb, xb, yb, tt⟩ = true ∧ (ba == bb) = true ∧ (xa == xb) = true ∧ (ya == yb) = false) ∨ (rightB ⟨sa, ba, xa, ya, ta⟩ = true ∧ rightB ⟨sb, bb, xb, yb, tb⟩ = true ∧ rightB ⟨sb, bb, xb, yb, tt⟩ = true ∧ (ba == bb) = true ∧ (xa == xb) = true ∧ (ya == yb) = true ∧ newer sb sa = false) ∨ (rightB ⟨sa, ba, xa, ya, ta⟩ = true ∧ rightB ⟨sb, bb, xb, yb, tb⟩ = true ∧ rightB ⟨sb, bb, xb, yb, tt⟩ = true ∧ (ba == bb) = true ∧ (xa == xb) = true ∧ (ya == yb) = true ∧ newer sb sa = true) := by
  rcases h0 : rightB ⟨sa, ba, xa, ya, ta⟩ with _ | _ <;> rcases h1 : rightB ⟨sb, bb, xb, yb, tb⟩ with _ | _ <;> rcases h2 : rightB ⟨sb, bb, xb, yb, tt⟩ with _ | _ <;> rcases h3 : (ba == bb) with _ | _ <;> rcases h4 : (xa == xb) with _ | _ <;> rcases h5 : (ya == yb) with _ | _ <;> rcases h6 : newer sb sa with _ | _ <;> simp

set_option maxRecDepth 100000 in
set_option maxHeartbeats 4000000 in
theorem combine_calls (sa ba xa ya ta sb bb xb yb tb : Int) (w : World) :
    Calls Try.prog 20 #[.agg #[.int .u16 sa, .int .u8 ba, .int .i8 xa, .int .i8 ya, .int .i64 ta], .agg #[.int .u16 sb, .int .u8 bb, .int .i8 xb, .int .i8 yb, .int .i64 tb]] w fun e w' =>
      e = .returned (.tuple #[(comb ⟨sa, ba, xa, ya, ta⟩ ⟨sb, bb, xb, yb, tb⟩).val, .bool (okB ⟨sa, ba, xa, ya, ta⟩ ⟨sb, bb, xb, yb, tb⟩)]) ∧ w.grownBy w' none := by
  unfold comb okB sameB both
  dsimp only
  obtain ⟨tt, htt⟩ : ∃ tt, IntKind.i64.wrap (ta + tb) = tt := ⟨_, rfl⟩
  rw [htt]
  rcases okB_cases sa ba xa ya ta sb bb xb yb tb tt with ⟨h0, h1⟩ | ⟨h0, h1, h2⟩ | ⟨h0, h1, h2, h3⟩ | ⟨h0, h1, h2, h3⟩ | ⟨h0, h1, h2⟩ | ⟨h0, h1, h2, h3⟩ | ⟨h0, h1, h2, h3, h4⟩ | ⟨h0, h1, h2, h3, h4⟩ | ⟨h0, h1, h2, h3⟩ | ⟨h0, h1, h2, h3, h4⟩ | ⟨h0, h1, h2, h3, h4, h5⟩ | ⟨h0, h1, h2, h3, h4, h5⟩ | ⟨h0, h1, h2, h3⟩ | ⟨h0, h1, h2, h3, h4⟩ | ⟨h0, h1, h2, h3, h4, h5⟩ | ⟨h0, h1, h2, h3, h4, h5, h6⟩ | ⟨h0, h1, h2, h3, h4, h5, h6⟩
  all_goals
    go_enter Try.func20, Try.ntmps20
    go_wp2_with (first
      | (go_at_call 29; refine (right_calls _ _ _ _ _ _).mono ?_; rintro e w1 ⟨rfl, rfl⟩)
      | (go_at_call 26; refine (newer_calls _ _ _).mono ?_; rintro e w1 ⟨rfl, rfl⟩))
    all_goals first
      | exact bodyPost_ret (v := .tuple #[.agg #[.int .u16 0, .int .u8 0, .int .i8 0, .int .i8 0, .int .i64 0], .bool false]) (by simp [results, Try.results20, go_sem]) rfl ⟨rfl, by repeat (first | exact World.grownBy.refl _ _ | refine only_trans ?_ (World.grownBy_alloc _ _ none))⟩
      | exact bodyPost_ret (v := .tuple #[.agg #[.int .u16 sb, .int .u8 bb, .int .i8 xb, .int .i8 yb, .int .i64 tt], .bool true]) (by simp [results, Try.results20, go_sem]) rfl ⟨rfl, by repeat (first | exact World.grownBy.refl _ _ | refine only_trans ?_ (World.grownBy_alloc _ _ none))⟩
end Go.Proofs.Ytehlehfljgphkaa
