/-
  PROVED: the law MovesOnce: of any commands, each put twice, the second one is refused; what was saved last is what counts, also when all are acked. Conditions: none.
-/
import Derived.Test.YtehlehfljgphkaaOnce
import Derived.Test.YtehlehfljgphkaaOpen
import Derived.Test.YtehlehfljgphkaaRows
namespace Go.Proofs.Ytehlehfljgphkaa
open Go.ChangeShapes Go.WideShapes Go.ChangeAt Go.RowKit

namespace movesOnce
theorem own : ownKnob Try.prog.godebug = none := by kernel_rfl
theorem laidOut : laidOutB Try.prog = true := by kernel_rfl
set_option maxRecDepth 100000 in
theorem lifted (os : Os) (started : os.Started) (H : Type) (enc : TypeId × Value → H) :
    ReturnsInHanded {} Try.checked os 8 .any (Rows.movesOnceSpec.pre6 enc Try.prog Try.f8 Rows.movesOnceRow.domain false)
      (Rows.movesOnceSpec.post enc Try.prog Try.f8 false true false false) := by
  refine returnsInHanded_of_change (C := Try.checked) own started (by kernel_rfl) Try.func8
    (ChangeSpec.witness6 (enc := enc) (C := Try.checked) false ⟨#[], #[.slice none 0 0, .slice none 0 0], []⟩ 8 (by kernel_rfl) (by kernel_rfl) (by kernel_rfl) (by kernel_rfl)) ?_
  intro W base args ds gs before hval0 hW hcnd _
  have hval : ∀ (j : Nat) t v, Try.f8.params[j]? = some t → args[j]? = some v → Value.okWide Try.prog W .any base t v := hval0
  have hW' := hW
  obtain ⟨p, q, hA0, hV, rfl, hfz, hnd⟩ := hW
  have hA : DataW.TrodAll enc Try.prog W 0 (fun _ => true) true Try.f8.params.toList args.toList ds p := hA0
  rw [Try.params8] at hA hval
  obtain ⟨v0, vs0, d0, ds0, p0, q0, hargs, rfl, rfl, h0, r0⟩ := trodAll_cons hA
  obtain ⟨v1, vs1, d1, ds1, p1, q1, rfl, rfl, rfl, h1, r1⟩ := trodAll_cons r0
  obtain ⟨rfl, rfl, rfl⟩ := trodAll_nil r1
  obtain rfl : args = #[v0, v1] := by cases args; simp_all
  obtain ⟨rfl, rfl⟩ := trodVars_none hV
  obtain ⟨a0, len0, cap0, rfl⟩ := okWide_slice Try.underlying27 (hval 0 27 v0 rfl rfl)
  have k0 := h0
  have lt0 : ∀ x ∈ p0, x.block < W.heap.size := by obtain ⟨m, hm⟩ := k0; exact DataW.trod_lt m _ _ _ hm
  obtain ⟨z0, w0a, w0b, w0, f0⟩ : ∃ zs, len0 ≤ cap0 ∧ cap0 ≤ maxLen ∧ Rg 5 Cmd.cl W W.heap.size a0 len0 zs ∧ ∀ c ∈ zs, Fit c := by
    obtain ⟨fuel, hf⟩ := h0
    exact rg_of_slice 5 Cmd.cl Fit Try.underlying27 k33 (by decide) Cmd.cl_len (fun h => cmd_of_trod h) hf
  obtain ⟨a1, len1, cap1, rfl⟩ := okWide_slice Try.underlying47 (hval 1 47 v1 rfl rfl)
  have k1 := h1
  have lt1 : ∀ x ∈ p1, x.block < W.heap.size := by obtain ⟨m, hm⟩ := k1; exact DataW.trod_lt m _ _ _ hm
  obtain ⟨z1, w1a, w1b, w1, f1⟩ : ∃ zs, len1 ≤ cap1 ∧ cap1 ≤ maxLen ∧ Rg 1 bcl W W.heap.size a1 len1 zs ∧ ∀ c ∈ zs, (fun _ : Bool => True) c := by
    obtain ⟨fuel, hf⟩ := h1
    exact rg_of_slice 1 bcl (fun _ : Bool => True) Try.underlying47 k4 (by decide) bcl_len (fun h => by obtain ⟨b, hb, _⟩ := DataW.trod_bool Try.underlying4 h; exact ⟨b, hb, trivial⟩) hf
  clear hA0 hval0
  have hcalls : Calls Try.prog 8 #[.slice a0 len0 cap0, .slice a1 len1 cap1] W fun e w' => e = .returned (.bool true) ∧ Below W.heap.size W w' := by
    exact once a0 len0 cap0 z0 a1 len1 cap1 z1 W (by have h1 := w0a; have h2 := w0b; unfold maxLen at h2; omega) w0 w1
  refine hcalls.mono fun e W' ⟨he, bel⟩ => ?_
  subst he
  exact ⟨_, rfl, _, _, _, [], _, [], hW', trodAll_mk1 (shut_bool Try.underlying4 _), (trodAll_cons_mk (Below.trod laidOut (by kernel_rfl) (of_decide_eq_true (by kernel_rfl)) k0 bel lt0) (trodAll_cons_mk (Below.trod laidOut (by kernel_rfl) (of_decide_eq_true (by kernel_rfl)) k1 bel lt1) trodAll_mk0)), rfl, bel.frame _, fun h => by cases h⟩

theorem row_holds : Rows.MovesOnceSaid :=
  OpenClaim.holds_of_wide 8 Try.f8 rfl rfl rfl rfl rfl rfl rfl ⟨rfl, rfl, rfl, rfl, rfl⟩ rfl rfl rfl rfl rfl (by kernel_rfl) Try.func8 (by kernel_rfl)
    (of_decide_eq_true (by kernel_rfl)) (by unfold Func.isWrapper; first | (rw [if_pos (by decide +kernel)]; kernel_rfl) | (rw [if_neg (by decide +kernel)]; exact ⟨rfl, rfl⟩))
    (fun os started H enc _ => lifted os started H enc)
end movesOnce
#print axioms movesOnce.row_holds
end Go.Proofs.Ytehlehfljgphkaa
