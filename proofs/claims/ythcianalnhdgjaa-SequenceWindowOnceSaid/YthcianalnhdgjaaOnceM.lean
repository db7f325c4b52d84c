/-
  A map[int]bool of the call's own, as a function on integers: a look-up, a store, each as the run's equation.
-/
import Derived.Test.YthcianalnhdgjaaOnceN
import Derived.Maps.OwnSet
namespace Go.Proofs.Ythcianalnhdgjaa
open Go.RowKit Go.Maps

theorem key3 : Keyed Try.prog 3 := int_keyed Try.underlying3
theorem zero4 (w : World) : (zeroValue 4).run Try.prog w = .ok (.bool false) w := by kernel_rfl
theorem run_makeSeen (w : World) : (Instr.makeMap 33 none).run Try.prog w = .ok (.map (some w.heap.size)) (w.alloc (.map #[] 0)) := by kernel_rfl

theorem plainElem_bool_inv {H : Type} {P : Program} {e : TypeId} (he : P.underlying e = some .bool) {v : Value} {d : DataW H} {ps : List MemPlace} (h : plainElem P e v = some (d, ps)) : ∃ x, v = .bool x ∧ d = .lit (.bool x) := by
  unfold plainElem at h
  rw [he] at h
  cases v <;> simp at h
  exact ⟨_, rfl, h.1.symm⟩

/-- Block b is a map of at most n entries that holds true at just the integers that f tells. -/
def Seen (w : World) (b n : Nat) (f : Int → Bool) : Prop :=
  ∃ D : DataW Unit, w.ownsMap Try.prog 3 (plainElem Try.prog 4) b n D ∧ ∀ x : Int, (Lit.int .i64 x).wf = true → D.atKey (.int .i64 x) (.lit (.bool false)) = .lit (.bool (f x))
theorem Seen.made (w : World) : Seen (w.alloc (.map #[] 0)) w.heap.size 0 fun _ => false :=
  ⟨.map [], World.ownsMap_made _ _ _ _, fun _ _ => rfl⟩
theorem Seen.kept {w w' : World} {b n : Nat} {f : Int → Bool} (h : Seen w b n f) {row : Option Nat} (hg : w.grownBy w' row) (hne : some b ≠ row) : Seen w' b n f := by
  obtain ⟨D, h1, h2⟩ := h
  exact ⟨D, h1.kept hg hne, h2⟩
theorem Seen.drewN {w : World} {b n : Nat} {f : Int → Bool} (h : Seen w b n f) (k : Nat) : Seen (w.drewN k) b n f :=
  h.kept (row := none) ⟨rfl, rfl, rfl, Nat.le_refl _, fun _ _ _ => rfl⟩ (by simp)
theorem Seen.look {w : World} {b n : Nat} {f : Int → Bool} (h : Seen w b n f) (x : Int) (h1 : -9223372036854775808 ≤ x) (h2 : x ≤ 9223372036854775807) :
    (Instr.lookup 33 (.map (some b)) (.int .i64 x) false).run Try.prog w = .ok (.bool (f x)) w := by
  have hw : (Lit.int .i64 x).wf = true := by simp [Lit.wf, IntKind.min, IntKind.max, IntKind.signed, IntKind.bits]; omega
  obtain ⟨D, ho, hf⟩ := h
  obtain ⟨v, ps, hrun, hv⟩ := ho.lookup key3 Try.underlying33 (zero4 w) (plainElem_bool Try.underlying4 false) (keyOf_int_mk Try.underlying3 hw)
  obtain ⟨y, rfl, hy⟩ := plainElem_bool_inv Try.underlying4 hv
  rw [hf x hw] at hy
  injection hy with hy
  injection hy with hy
  rw [hrun, hy]
theorem Seen.lit {w : World} {b n : Nat} {f : Int → Bool} (h : Seen w b n f) {g : Int → Bool} (e : ∀ x, f x = g x) : Seen w b n g := by
  have : f = g := funext e
  exact this ▸ h
theorem Seen.store {w : World} {b n : Nat} {f : Int → Bool} (h : Seen w b n f) (hn : n < maxLen) (x : Int) (h1 : -9223372036854775808 ≤ x) (h2 : x ≤ 9223372036854775807) :
    ∃ w', (Instr.mapUpdate 33 (.map (some b)) (.int .i64 x) (.bool true)).run Try.prog w = .ok () w' ∧ Seen w' b (n + 1) (mark f x) ∧ w.grownBy w' (some b) := by
  have hw : (Lit.int .i64 x).wf = true := by simp [Lit.wf, IntKind.min, IntKind.max, IntKind.signed, IntKind.bits]; omega
  obtain ⟨D, ho, hf⟩ := h
  obtain ⟨w', hrun, hown, hg⟩ := ho.update key3 Try.underlying33 hn (keyOf_int_mk Try.underlying3 hw) (plainElem_bool Try.underlying4 true)
  have hk : WideAt.IsKeyLit (Lit.int .i64 x) := key3.key (keyOf_int_mk Try.underlying3 hw)
  refine ⟨w', hrun, ⟨_, hown, fun y hy => ?_⟩, hg⟩
  by_cases e : y = x
  · subst e
    rw [atKey_put_same (ho.isMap) hk, mark_same]
  · rw [atKey_put_other (by intro e2; injection e2 with _ e2; exact e e2), hf y hy, mark_other _ e]
end Go.Proofs.Ythcianalnhdgjaa
