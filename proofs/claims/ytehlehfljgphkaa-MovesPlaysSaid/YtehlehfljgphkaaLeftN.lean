/-
  MovesLeft: plain words, and regions taken out of a function.
-/
import Derived.Test.YtehlehfljgphkaaAcked
import Derived.Test.YtehlehfljgphkaaEq
import Derived.Test.YtehlehfljgphkaaReg
namespace Go.Proofs.Ytehlehfljgphkaa
open Go.RowKit

/-- The numbers go up from place d on. -/
def Seqd (first : Int) (d : Nat) (l : List Cmd) : Prop := ∀ (i : Nat) (c : Cmd), l[i]? = some c → c.seq = (first + ((d + i : Nat) : Int)) % 65536
theorem Seqd.snoc {first : Int} {d : Nat} {l : List Cmd} (h : Seqd first d l) (c : Cmd) (hc : c.seq = (first + ((d + l.length : Nat) : Int)) % 65536) : Seqd first d (l ++ [c]) := fun i x hx => by
  rcases Nat.lt_or_ge i l.length with hlt | hge
  · rw [List.getElem?_append_left hlt] at hx
    exact h i x hx
  · rw [List.getElem?_append_right hge] at hx
    have h0 : i - l.length = 0 := by
      rcases Nat.eq_zero_or_pos (i - l.length) with h0 | h0
      · exact h0
      · rw [List.getElem?_eq_none (by simp; omega)] at hx; cases hx
    rw [h0] at hx
    simp at hx
    subst hx
    rw [hc]
    congr 3; omega
theorem Seqd.drop {first : Int} {d : Nat} {l : List Cmd} (h : Seqd first d l) (n : Nat) : Seqd first (d + n) (l.drop n) := fun i x hx => by
  rw [List.getElem?_drop] at hx
  rw [h _ _ hx]
  congr 3; omega
theorem Seqd.newer_ {first : Int} {d : Nat} {l : List Cmd} (h : Seqd first d l) {i k : Nat} {c : Cmd} (hc : l[i]? = some c) (hi : d + i ≤ 100) (hk : k ≤ 100) : newer c.seq ((first + k - 1) % 65536) = decide (k ≤ d + i) := by
  rw [h i c hc]
  unfold newer dist
  exact decide_eq_decide.2 (by omega)
theorem Seqd.ackN_ {first : Int} {d : Nat} {l : List Cmd} (h : Seqd first d l) (k : Nat) (hl : d + l.length ≤ 100) (hk : k ≤ 100) : ackN ((first + k - 1) % 65536) l = min l.length (k - d) := by
  rcases Nat.lt_or_ge (k - d) l.length with hlt | hge
  · rw [Nat.min_eq_right (by omega)]
    refine ackN_at (List.getElem?_eq_getElem hlt) ?_ fun j c hj hc => ?_
    · rw [h.newer_ (List.getElem?_eq_getElem hlt) (by omega) hk]; simp; omega
    · rw [h.newer_ hc (by omega) hk]; simp; omega
  · rw [Nat.min_eq_left hge]
    exact ackN_all fun j c hc => by
      have hj : j < l.length := (List.getElem?_eq_some_iff.1 hc).1
      rw [h.newer_ hc (by omega) hk]; simp; omega

/-- What lies there while the commands are saved. -/
structure Saving (w0 wr : World) (g ga : Nat) (first : Int) (cnt : Nat) : Prop where
  ex : ∃ l s last v, Own w0 wr g l s last v ∧ l.length = cnt ∧ Seqd first 0 l ∧ (s = true → newer ((first + cnt) % 65536) last = true) ∧
    Besides wr ga g v 45 (plA (l.foldl (stepP 0) ⟨0, 0, 0, 0⟩).x (l.foldl (stepP 0) ⟨0, 0, 0, 0⟩).y (l.foldl (stepP 0) ⟨0, 0, 0, 0⟩).h (l.foldl (stepP 0) ⟨0, 0, 0, 0⟩).s) ∧ w0.heap.size ≤ ga
theorem newer_next {first : Int} (k : Nat) : newer ((first + (k + 1 : Nat)) % 65536) ((first + k) % 65536) = true := by
  unfold newer dist
  exact decide_eq_true (by omega)
theorem Besides.own {w w' : World} {k g : Nat} {v : Value} {t : TypeId} {cs : Array Value} (h : Besides w k g v t cs) {cs' : Array Value} (hb : Blk w' k t cs') : Besides w' k g v t cs' := ⟨hb, h.2⟩
theorem Own.beside {w0 w w' : World} {g k : Nat} {l : List Cmd} {s : Bool} {last : Int} {v : Value} {t : TypeId} {cs : Array Value} (h : Own w0 w g l s last v) (hb : Besides w k g v t cs) (hk : w0.heap.size ≤ k) (hg : w.grownBy w' (some k)) : Own w0 w' g l s last v := by
  refine ⟨grown_own h.grown hg hk, h.ge, h.mv.blk.grown hg (fun e => hb.2.1 (by injection e with e; exact e.symm)), h.mv.row.kept hg ?_⟩
  rcases hv : v.ownBlock with _ | j
  · exact .inl rfl
  · exact .inr fun e => hb.2.2 (by rw [hv]; exact e)

theorem Mv.drew_ {w : World} {g : Nat} {l : List Cmd} {s : Bool} {last : Int} {v : Value} (h : Mv w g l s last v) : Mv w.drew g l s last v := ⟨h.blk, h.row⟩
theorem grown_weak {a b : World} (h : a.grownBy b none) (r : Option Nat) : a.grownBy b r := ⟨h.os, h.tape, h.output, h.size, fun k hk _ => h.block k hk (by simp)⟩
/-- The region of this number. -/
def regOf (n : Nat) : Code → Option Code
  | .region id ops d => if id = n then some (.region id ops d) else none
  | .seq a b => match regOf n a with
    | some c => some c
    | none => regOf n b
  | .cond _ a b => match regOf n a with
    | some c => some c
    | none => regOf n b
  | .block _ c => regOf n c
  | .loop c => regOf n c
  | .scope c => regOf n c
  | _ => none
/-- What a region was shown to leave, at any post. -/
theorem leaves_post {P : Program} {c : Code} {a F : Act} {w : World} {Q : Exit → Act → World → Prop} {I : World → Prop} (h : c.wp P (Leaves F I) a w) (hq : ∀ w', I w' → Q .normal F w') : c.wp P Q a w :=
  wp_mono h fun e a w ⟨he, ha, hi⟩ => by subst he; subst ha; exact hq w hi
theorem post_any {P : Program} {c : Code} {a : Act} {w : World} {Q : Exit → Act → World → Prop} (h : ∀ Q0 : Exit → Act → World → Prop, (∀ a w, Q .normal a w → Q0 .normal a w) → (∀ c a b w, Q0 (.panic c) a w → Q0 (.panic c) b w) → c.wp P Q0 a w) : c.wp P Q a w :=
  wp_mono (h (fun e a w => e = .normal ∧ Q .normal a w) (fun _ _ h => ⟨rfl, h⟩) (fun _ _ _ _ h => by cases h.1)) (fun e a w ⟨he, h⟩ => he ▸ h)
end Go.Proofs.Ytehlehfljgphkaa
