/-
  PROVED: the law BitsBack: what was put is got, in order: any puts (a hundred): each number's lowest bits, with its sign, if it has room; behind all Rest, and then nothing. Conditions: none.
-/
import Derived.Test.YtldgldibkibknaaBack
import Derived.Test.YtldgldibkibknaaOpen
import Derived.Test.YtldgldibkibknaaRows
namespace Go.Proofs.Ytldgldibkibknaa
open Go.ChangeShapes Go.WideShapes Go.ChangeAt Go.RowKit

namespace bitsBack
theorem own : ownKnob Try.prog.godebug = none := by kernel_rfl
theorem laidOut : laidOutB Try.prog = true := by kernel_rfl
set_option maxRecDepth 100000 in
theorem lifted (os : Os) (started : os.Started) (H : Type) (enc : TypeId × Value → H) :
    ReturnsInHanded {} Try.checked os 9 .any (Rows.bitsBackSpec.pre6 enc Try.prog Try.f9 Rows.bitsBackRow.domain false)
      (Rows.bitsBackSpec.post enc Try.prog Try.f9 false true false false) := by
  refine returnsInHanded_of_change (C := Try.checked) own started (by kernel_rfl) Try.func9
    (ChangeSpec.witness6 (enc := enc) (C := Try.checked) false ⟨#[], #[.slice none 0 0], []⟩ 8 (by kernel_rfl) (by kernel_rfl) (by kernel_rfl) (by kernel_rfl)) ?_
  intro W base args ds gs before hval0 hW hcnd _
  have hval : ∀ (j : Nat) t v, Try.f9.params[j]? = some t → args[j]? = some v → Value.okWide Try.prog W .any base t v := hval0
  have hW' := hW
  obtain ⟨p, q, hA0, hV, rfl, hfz, hnd⟩ := hW
  have hA : DataW.TrodAll enc Try.prog W 0 (fun _ => true) true Try.f9.params.toList args.toList ds p := hA0
  rw [Try.params9] at hA hval
  obtain ⟨v0, vs0, d0, ds0, p0, q0, hargs, rfl, rfl, h0, r0⟩ := trodAll_cons hA
  obtain ⟨rfl, rfl, rfl⟩ := trodAll_nil r0
  obtain rfl : args = #[v0] := by cases args; simp_all
  obtain ⟨rfl, rfl⟩ := trodVars_none hV
  obtain ⟨a0, len0, cap0, rfl⟩ := okWide_slice Try.underlying22 (hval 0 22 v0 rfl rfl)
  have k0 := h0
  have lt0 : ∀ x ∈ p0, x.block < W.heap.size := by obtain ⟨m, hm⟩ := k0; exact DataW.trod_lt m _ _ _ hm
  obtain ⟨z0, w0a, w0b, w0, f0⟩ : ∃ zs, len0 ≤ cap0 ∧ cap0 ≤ maxLen ∧ Rg 3 Pt.cl W W.heap.size a0 len0 zs ∧ ∀ c ∈ zs, (fun _ : Pt => True) c := by
    obtain ⟨fuel, hf⟩ := h0
    exact rg_of_slice 3 Pt.cl (fun _ : Pt => True) Try.underlying22 k43 (by decide) Pt.cl_len (fun h => by obtain ⟨c, hc⟩ := pt_of_trod h; exact ⟨c, hc, trivial⟩) hf
  clear hA0 hval0
  have hcalls : Calls Try.prog 9 #[.slice a0 len0 cap0] W fun e w' => e = .returned (.bool true) ∧ Below W.heap.size W w' := by
    exact back a0 len0 cap0 z0 W (by have h1 := w0a; have h2 := w0b; unfold maxLen at h2; omega) w0
  refine hcalls.mono fun e W' ⟨he, bel⟩ => ?_
  subst he
  exact ⟨_, rfl, _, _, _, [], _, [], hW', trodAll_mk1 (shut_bool Try.underlying4 _), (trodAll_cons_mk (Below.trod laidOut (by kernel_rfl) (of_decide_eq_true (by kernel_rfl)) k0 bel lt0) trodAll_mk0), rfl, bel.frame _, fun h => by cases h⟩

theorem row_holds : Rows.BitsBackSaid :=
  OpenClaim.holds_of_wide 9 Try.f9 rfl rfl rfl rfl rfl rfl rfl ⟨rfl, rfl, rfl, rfl, rfl⟩ rfl rfl rfl rfl rfl (by kernel_rfl) Try.func9 (by kernel_rfl)
    (of_decide_eq_true (by kernel_rfl)) (by unfold Func.isWrapper; first | (rw [if_pos (by decide +kernel)]; kernel_rfl) | (rw [if_neg (by decide +kernel)]; exact ⟨rfl, rfl⟩))
    (fun os started H enc _ => lifted os started H enc)
end bitsBack
#print axioms bitsBack.row_holds
end Go.Proofs.Ytldgldibkibknaa
