/-
  A region that draws its order, walked within a round of a range over a function by the laws of the plain walk: nothing in it is a defer statement; what it leaves is normal.
-/
import Derived.Test.YtldgldibkibknaaBase
import Derived.RangeFuncNested
import Derived.RangeFuncBound
import Derived.RangeFuncCalls
import Derived.RangeFuncLeaves
import Derived.OrdersIn
import Derived.StillTail
namespace Go.Proofs.Ytldgldibkibknaa
open Go.RowKit

/-- What is left is normal. -/
def plainQ (Q : Exit → Act → World → Prop) : Exit → Act → World → Prop := fun e a w => e = .normal ∧ Q .normal a w
theorem plainQ.mk {Q : Exit → Act → World → Prop} {a : Act} {w : World} (h : Q .normal a w) : plainQ Q .normal a w := ⟨rfl, h⟩
theorem plainQ.lets {Q : Exit → Act → World → Prop} : ¬ LetsOut (plainQ Q) := fun ⟨_, _, h, _⟩ => by cases h

/-- No operation is a defer statement. -/
def noDefer (ops : Array Oper) : Bool := ops.all fun o => match o.op with | .defer _ => false | _ => true
theorem noDefer.at_ {ops : Array Oper} (h : noDefer ops = true) {i : Nat} {o : Oper} (ho : ops[i]? = some o) : ∀ c, o.op ≠ .defer c := fun c e => by
  obtain ⟨hi, rfl⟩ := Array.getElem?_eq_some_iff.1 ho
  have := (Array.all_eq_true.1 h) i hi
  rw [e] at this
  cases this

section
variable {P : Program} {ops : Array Oper} {md : Region.Mode} {l n : Nat} {Q : Exit → Act → World → Prop}

theorem upon_round {o : Oper} {a : Act} {K : Act → World → Prop} (r : Result Next) (h : o.upon P a K Q r) : o.uponIn (Fence.wide.inRound l) n P a K Q r := by
  have no : ¬ (Fence.wide.inRound l).depth.isSome = true := by intro h; cases h
  cases r with
  | ok x w' =>
    cases x
    case value v => exact h
    case skip => exact h
    case defer d => exact h
    case enter f args => exact ⟨fun h => absurd h no, CallsIn.inRound l (callsIn_wide.2 h)⟩
    case row row args =>
      refine ⟨fun h => absurd h no, fun c cs _ => ?_⟩
      obtain ⟨v, w', r, s⟩ := h c cs
      exact ⟨v, w', r, stepsIn_wide.2 s⟩
    all_goals exact h.elim
  | halt x w' => cases x <;> exact h

theorem wpOp_round (hd : noDefer ops = true) {i : Nat} {K K' : Act → World → Prop} {a : Act} {w : World} (hK : ∀ a w, K a w → K' a w) (h : wpOp P ops (plainQ Q) i K a w) :
    wpOpIn (Fence.wide.inRound l) n P ops (plainQ Q) i K' a w := by
  have h := wpOp_mono hK h
  unfold wpOp at h
  unfold wpOpIn
  cases hi : ops[i]? with
  | none => simpa [hi] using h
  | some o =>
    simp only [hi] at h ⊢
    split
    · rename_i hw
      rw [if_pos hw] at h
      rcases h with h | ⟨_, h⟩
      · refine ⟨fun _ _ => trivial, ?_⟩
        rw [show (Fence.wide.inRound l).round = some l from rfl, Oper.semAt_some l _ o (noDefer.at_ hd hi)]
        exact upon_round _ h
      · exact absurd h plainQ.lets
    · rename_i hw
      rw [if_neg hw] at h
      exact ⟨fun _ _ => trivial, h⟩

theorem wpAny_round (hd : noDefer ops = true) : ∀ (fuel : Nat) (listed : Array Bool) (a : Act) (w : World), wpAny P md ops (plainQ Q) fuel listed a w →
    wpAnyIn (Fence.wide.inRound l) n P md ops (plainQ Q) fuel listed a w
  | 0, _, _, _, h => h
  | fuel + 1, _, _, _, h => ⟨h.1, fun i hi => wpOp_round hd (fun a w => wpAny_round hd fuel _ a w) (h.2 i hi)⟩

/-- Within a round: a region that draws, by the plain walk. -/
theorem wpIn_region_round {id : Nat} {a : Act} {w : World} (hm : P.follows .mixedOrders = true) (hd : noDefer ops = true)
    (h : wpAny P .any ops (plainQ Q) ops.size (Array.replicate ops.size false) a w.drew) : (Code.region id ops true).wpIn (Fence.wide.inRound l) n P Q a w :=
  wpIn_mono (wpIn_region_any hm (wpAny_round hd _ _ _ _ h)) (fun _ _ _ h => by obtain ⟨rfl, h⟩ := h; exact h)

/-- The same, and what is left is said. -/
theorem wpIn_region_round_post {id : Nat} {a : Act} {w : World} (Post : Act → World → Prop) (hm : P.follows .mixedOrders = true) (hd : noDefer ops = true) (hp : ∀ a' w', Post a' w' → Q .normal a' w')
    (h : wpAny P .any ops (plainQ fun _ => Post) ops.size (Array.replicate ops.size false) a w.drew) : (Code.region id ops true).wpIn (Fence.wide.inRound l) n P Q a w :=
  wpIn_mono (wpIn_region_any hm (wpAny_round hd _ _ _ _ h)) (fun _ _ _ h => by obtain ⟨rfl, h⟩ := h; exact hp _ _ h)

/-- The same, all but the last k' operations reading alone. -/
theorem wpIn_round_tail {id : Nat} {a : Act} {w : World} {l' : List Oper} (k : Nat) (hm : P.follows .mixedOrders = true) (hd : noDefer l'.toArray = true) (hB : Region.lexTailB .any l'.toArray k = true)
    (h : wpStill P l'.toArray w.drew (fun a' => wpList P l'.toArray (plainQ Q) (l'.drop k) a' w.drew) (l'.take k) a) : (Code.region id l'.toArray true).wpIn (Fence.wide.inRound l) n P Q a w := by
  refine wpIn_region_round hm hd ?_
  simp only [Region.lexTailB, Bool.and_eq_true, decide_eq_true_eq] at hB
  obtain ⟨⟨⟨⟨hsel, hn⟩, hs⟩, hc⟩, hlex⟩ := hB
  have hn' : k < l'.length := by simpa using hn
  have htl : (l'.take k).length = k := by simp; omega
  have hdl : (l'.drop k).length = l'.toArray.size - k := by simp
  have inv0 : HeadInv .any l'.toArray k (Array.replicate l'.toArray.size false) :=
    ⟨by simp, fun j oj _ hl => (by rw [getD_replicate_false] at hl; cases hl), fun t _ ht => getD_in (by simpa using ht) (getD_replicate_false _ _)⟩
  have H := wpAnyL_lex (md := .any) (g := l'.toArray.size - k) hsel hs hc hn (l'.take k) 0 _ a (fun j hj => by
    have hj' : j < k := by rw [htl] at hj; exact hj
    simp [hj']) (by simpa using htl) inv0 (by rw [htl]; exact hlex) h
  have := wpAny_of_head (Q' := plainQ Q) (g := l'.toArray.size - k) (fun listed a' hL => by
    have := wpAny_of_seq (md := .any) (Q' := plainQ Q) (l'.drop k) k listed a' w.drew (fun j => by simp [List.getElem?_drop]) (by rw [hdl]; exact hL.1) hL.2
    rwa [hdl] at this) _ _ _ H
  rw [htl, show k + (l'.toArray.size - k) = l'.toArray.size by omega] at this
  exact this
end
end Go.Proofs.Ytldgldibkibknaa
