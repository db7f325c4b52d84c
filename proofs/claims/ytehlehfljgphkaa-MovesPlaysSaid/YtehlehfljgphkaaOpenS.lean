/-
  From a row's reading of its arguments to the words of the walks: a slice of steps.
-/
import Derived.Test.YtehlehfljgphkaaOpen
import Derived.Test.YtehlehfljgphkaaPl
namespace Go.Proofs.Ytehlehfljgphkaa
open Go.ChangeShapes Go.WideShapes Go.ChangeAt Go.RowKit Go.Deep

section
variable {H : Type} {enc : TypeId × Value → H} {w : World} {base : Nat} {sp : Nat → Bool} {held : Bool}
theorem st_of_trod {n : Nat} {cs : List Value} {x : DataW H × List MemPlace} (h : DataW.trod enc Try.prog w base sp held n 35 cs = some x) : ∃ c : St, cs = c.cl ∧ c.ok := by
  obtain ⟨xs, m, _, _, hlen, hxl, hf⟩ := DataW.trod_struct Try.underlying35 h
  have hc7 : cs.length = 7 := hlen.trans k35
  have hx3 : xs.length = 3 := hxl
  match cs, hc7, xs, hx3 with
  | [c0, c1, c2, c3, c4, c5, c6], _, [x0, x1, x2], _ =>
    have h0 := hf 0 { name := "Acks", type := 4, offset := 0, embedded := false, tag := "", pkgPath := "", byteOffset := 0 } rfl
    have h1 := hf 1 { name := "Seq", type := 30, offset := 1, embedded := false, tag := "", pkgPath := "", byteOffset := 2 } rfl
    have h2 := hf 2 { name := "C", type := 33, offset := 2, embedded := false, tag := "", pkgPath := "", byteOffset := 8 } rfl
    simp only [k30, k4, k33, List.drop_zero, List.drop_succ_cons, List.take_succ_cons, List.take_zero] at h0 h1 h2
    obtain ⟨a0, rfl⟩ := bool_of Try.underlying4 h0 rfl
    obtain ⟨a1, rfl, w1⟩ := int_of Try.underlying30 h1 rfl
    obtain ⟨c, hc, hfit⟩ := cmd_of_trod h2
    have b1 := bounds_u16 w1
    refine ⟨⟨a0, a1, c⟩, ?_, ⟨by dsimp only; omega, hfit.1⟩⟩
    have : [c2, c3, c4, c5, c6] = c.cl := hc
    unfold St.cl
    unfold Cmd.cl at this
    rw [this]
end
end Go.Proofs.Ytehlehfljgphkaa
