/-
  A region that draws its order, and what it leaves in every order: one frame, a world of which something is said.
-/
import Derived.Test.YtehlehfljgphkaaBase
import Derived.Deep.RegionWith
namespace Go.Proofs.Ytehlehfljgphkaa
open Go.RowKit

theorem take_k {P : Program} {ops : Array Oper} {Q : Exit → Act → World → Prop} {md : Region.Mode} {i : Nat} {oi : Oper} {v : Value} {fuel : Nat} {listed : Array Bool} {a : Act} {w : World} (hi : ops[i]? = some oi)
    (hs : Region.noSelect ops = true) (hf : Region.free md ops listed i = true) (hr : (Region.ready md ops listed).contains i = true)
    (hQ : ∀ c a w, Q (.panic c) (a.put oi.dst v) w → Q (.panic c) a w) (hy : Yields P ops oi v a)
    (h : ∀ K : Act → World → Prop, (∀ a w, wpAny P md ops Q fuel (listed.setIfInBounds i true) a w → K a w) → K (a.put oi.dst v) w) : wpAny P md ops Q (fuel + 1) listed a w :=
  wpAny_take hi hs hf hr hQ hy (h _ fun _ _ h => h)
/-- A frame, some slots written. -/
def puts (a : Act) : List (Nat × Value) → Act
  | [] => a
  | x :: r => puts (a.put (some x.1) x.2) r
/-- What a region leaves: the frame F, a world that meets I. -/
def Leaves (F : Act) (I : World → Prop) : Exit → Act → World → Prop := fun e a w => e = .normal ∧ a = F ∧ I w
theorem Leaves.panic {F : Act} {I : World → Prop} {d : Option Tmp} {v : Value} : ∀ c a w, Leaves F I (.panic c) (a.put d v) w → Leaves F I (.panic c) a w := fun _ _ _ h => by cases h.1
theorem region_post {P : Program} {ops : Array Oper} {id : Nat} {a : Act} {w : World} {Q : Exit → Act → World → Prop} (l : List (Nat × Value)) (I : World → Prop) (hm : P.follows .mixedOrders = true)
    (h : wpAny P .any ops (Leaves (puts a l) I) ops.size (Array.replicate ops.size false) a w.drew) (hq : ∀ w', I w' → Q .normal (puts a l) w') : (Code.region id ops true).wp P Q a w :=
  wp_mono (wp_region_any hm h) fun e a w ⟨he, ha, hi⟩ => by subst he; subst ha; exact hq w hi
end Go.Proofs.Ytehlehfljgphkaa
