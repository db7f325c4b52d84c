/-
  PROVED: the law MovesThree: if the first two of any three commands are one, and that and the third, then the last two are, and the first and that, if it is one, the same. Conditions: none.
-/
import Derived.Test.YtehlehfljgphkaaThree
import Derived.Test.YtehlehfljgphkaaOpen
import Derived.Test.YtehlehfljgphkaaRows
namespace Go.Proofs.Ytehlehfljgphkaa
open Go.ChangeShapes Go.WideShapes Go.ChangeAt Go.RowKit

namespace movesThree
theorem own : ownKnob Try.prog.godebug = none := by kernel_rfl
theorem laidOut : laidOutB Try.prog = true := by kernel_rfl
set_option maxRecDepth 100000 in
theorem lifted (os : Os) (started : os.Started) (H : Type) (enc : TypeId × Value → H) :
    ReturnsInHanded {} Try.checked os 5 .any (Rows.movesThreeSpec.pre6 enc Try.prog Try.f5 Rows.movesThreeRow.domain false)
      (Rows.movesThreeSpec.post enc Try.prog Try.f5 false true false false) := by
  refine returnsInHanded_of_change (C := Try.checked) own started (by kernel_rfl) Try.func5
    (ChangeSpec.witness6 (enc := enc) (C := Try.checked) false ⟨#[], #[.agg #[.int .u16 0, .int .u8 0, .int .i8 0, .int .i8 0, .int .i64 0], .agg #[.int .u16 0, .int .u8 0, .int .i8 0, .int .i8 0, .int .i64 0], .agg #[.int .u16 0, .int .u8 0, .int .i8 0, .int .i8 0, .int .i64 0]], []⟩ 8 (by kernel_rfl) (by kernel_rfl) (by kernel_rfl) (by kernel_rfl)) ?_
  intro W base args ds gs before hval0 hW hcnd _
  have hval : ∀ (j : Nat) t v, Try.f5.params[j]? = some t → args[j]? = some v → Value.okWide Try.prog W .any base t v := hval0
  have hW' := hW
  obtain ⟨p, q, hA0, hV, rfl, hfz, hnd⟩ := hW
  have hA : DataW.TrodAll enc Try.prog W 0 (fun _ => true) true Try.f5.params.toList args.toList ds p := hA0
  rw [Try.params5] at hA hval
  obtain ⟨v0, vs0, d0, ds0, p0, q0, hargs, rfl, rfl, h0, r0⟩ := trodAll_cons hA
  obtain ⟨v1, vs1, d1, ds1, p1, q1, rfl, rfl, rfl, h1, r1⟩ := trodAll_cons r0
  obtain ⟨v2, vs2, d2, ds2, p2, q2, rfl, rfl, rfl, h2, r2⟩ := trodAll_cons r1
  obtain ⟨rfl, rfl, rfl⟩ := trodAll_nil r2
  obtain rfl : args = #[v0, v1, v2] := by cases args; simp_all
  obtain ⟨rfl, rfl⟩ := trodVars_none hV
  have k0 := h0
  have lt0 : ∀ x ∈ p0, x.block < W.heap.size := by obtain ⟨m, hm⟩ := k0; exact DataW.trod_lt m _ _ _ hm
  obtain ⟨s0, b0, x0, y0, t0, rfl, f0, g0⟩ := open_cmd (hval 0 33 v0 rfl rfl) h0
  have k1 := h1
  have lt1 : ∀ x ∈ p1, x.block < W.heap.size := by obtain ⟨m, hm⟩ := k1; exact DataW.trod_lt m _ _ _ hm
  obtain ⟨s1, b1, x1, y1, t1, rfl, f1, g1⟩ := open_cmd (hval 1 33 v1 rfl rfl) h1
  have k2 := h2
  have lt2 : ∀ x ∈ p2, x.block < W.heap.size := by obtain ⟨m, hm⟩ := k2; exact DataW.trod_lt m _ _ _ hm
  obtain ⟨s2, b2, x2, y2, t2, rfl, f2, g2⟩ := open_cmd (hval 2 33 v2 rfl rfl) h2
  clear hA0 hval0
  have hcalls : Calls Try.prog 5 #[.agg #[.int .u16 s0, .int .u8 b0, .int .i8 x0, .int .i8 y0, .int .i64 t0], .agg #[.int .u16 s1, .int .u8 b1, .int .i8 x1, .int .i8 y1, .int .i64 t1], .agg #[.int .u16 s2, .int .u8 b2, .int .i8 x2, .int .i8 y2, .int .i64 t2]] W fun e w' => e = .returned (.bool true) ∧ Below W.heap.size W w' := by
    exact three s0 b0 x0 y0 t0 s1 b1 x1 y1 t1 s2 b2 x2 y2 t2 W
  refine hcalls.mono fun e W' ⟨he, bel⟩ => ?_
  subst he
  exact ⟨_, rfl, _, _, _, [], _, [], hW', trodAll_mk1 (shut_bool Try.underlying4 _), (trodAll_cons_mk (Below.trod laidOut (by kernel_rfl) (of_decide_eq_true (by kernel_rfl)) k0 bel lt0) (trodAll_cons_mk (Below.trod laidOut (by kernel_rfl) (of_decide_eq_true (by kernel_rfl)) k1 bel lt1) (trodAll_cons_mk (Below.trod laidOut (by kernel_rfl) (of_decide_eq_true (by kernel_rfl)) k2 bel lt2) trodAll_mk0))), rfl, bel.frame _, fun h => by cases h⟩

theorem row_holds : Rows.MovesThreeSaid :=
  OpenClaim.holds_of_wide 5 Try.f5 rfl rfl rfl rfl rfl rfl rfl ⟨rfl, rfl, rfl, rfl, rfl⟩ rfl rfl rfl rfl rfl (by kernel_rfl) Try.func5 (by kernel_rfl)
    (of_decide_eq_true (by kernel_rfl)) (by unfold Func.isWrapper; first | (rw [if_pos (by decide +kernel)]; kernel_rfl) | (rw [if_neg (by decide +kernel)]; exact ⟨rfl, rfl⟩))
    (fun os started H enc _ => lifted os started H enc)
end movesThree
#print axioms movesThree.row_holds
end Go.Proofs.Ytehlehfljgphkaa
