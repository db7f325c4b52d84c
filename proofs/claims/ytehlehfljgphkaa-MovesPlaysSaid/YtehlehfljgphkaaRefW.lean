/-
  The document's Add: its two rows, appended to.
-/
import Derived.Test.YtehlehfljgphkaaRefA
import Derived.Test.YtehlehfljgphkaaLeftN
namespace Go.Proofs.Ytehlehfljgphkaa
open Go.RowKit

theorem rc_of_blk {w : World} {p : Nat} {sq bt dx dy t : Int} (h : Blk w p 33 #[.int .u16 sq, .int .u8 bt, .int .i8 dx, .int .i8 dy, .int .i64 t]) : Rc w (p + 1) (some ⟨p, 0, none⟩) 1 [⟨sq, bt, dx, dy, t⟩] :=
  ⟨rfl, fun _ => ⟨p, 0, rfl, Nat.lt_succ_self _, fun j u hu => by
    rw [h.cell]
    simpa [Cmd.cl] using hu⟩⟩
theorem grown_own0 {a b c : World} {r : Option Nat} (h : a.grownBy b none) (j : b.grownBy c r) (hk : ∀ k, r = some k → a.heap.size ≤ k) : a.grownBy c none :=
  ⟨j.os.trans h.os, j.tape.trans h.tape, j.output.trans h.output, Nat.le_trans h.size j.size, fun i hi _ => (j.block i (Nat.lt_of_lt_of_le hi h.size) (by intro e; have := hk i e.symm; omega)).trans (h.block i hi (by simp))⟩
theorem own_caps {w : World} {base n sz c : Nat} {e : TypeId} {A : Option Addr} {xs : List Value} (h : w.ownsRow base e sz (.slice A n c) n xs) : n ≤ c ∧ c ≤ maxLen := by
  rcases h.2 with ⟨hv, hn⟩ | ⟨g, cap, cur, hv, _, _, h1, h2, _⟩
  · injection hv with _ _ hc; subst hc; subst hn; exact ⟨Nat.le_refl _, Nat.zero_le _⟩
  · injection hv with _ _ hc; subst hc; exact ⟨h1, h2⟩
theorem own_ge {w : World} {base n sz c lo : Nat} {e : TypeId} {A : Option Addr} {xs : List Value} (h : w.ownsRow base e sz (.slice A n c) n xs) {ad : Addr} (ea : A = some ad) (hb : lo ≤ base) : lo ≤ ad.block := by
  subst ea
  have := (h.lt ad.block rfl).1
  omega
theorem own_far {w : World} {base n sz c lo gw : Nat} {e : TypeId} {A : Option Addr} {xs : List Value} (h : w.ownsRow base e sz (.slice A n c) n xs) {ad : Addr} (ea : A = some ad) (hb : lo ≤ base) (hg : gw < lo) : ad.block ≠ gw := by
  have := own_ge h ea hb
  omega
/-- All that ever were: others. -/
theorem Rm.put1 {w : World} {gw : Nat} {l all : List Cmd} {AL AA : Option Addr} (h : Rm w gw l all AL AA) (AA' : Option Addr) (n' c' : Nat) (all' : List Cmd) (hr : Rc w w.heap.size AA' n' all') (_ : n' ≤ c') (_ : c' ≤ maxLen) (hn : ∀ ad, AA' = some ad → ad.block ≠ gw) :
    Rm (w.setCell ⟨gw, 1, none⟩ (.slice AA' n' c')) gw l all' AL AA' := by
  obtain ⟨cL, cA, h1, h1b, hb⟩ := h.blk
  have hl' : all'.length = n' := hr.1
  have hg := only_put (World.grownBy.refl w (some gw)) 1 (.slice AA' n' c')
  have keepR : ∀ (A : Option Addr) (m : Nat) (xs : List Cmd), Rc w w.heap.size A m xs → (∀ ad, A = some ad → ad.block ≠ gw) → Rc (w.setCell ⟨gw, 1, none⟩ (.slice AA' n' c')) (w.setCell ⟨gw, 1, none⟩ (.slice AA' n' c')).heap.size A m xs := fun A m xs hr hk =>
    ⟨hr.1, fun h0 => by
      obtain ⟨b, off, e, hlt, hc⟩ := hr.2 h0
      exact ⟨b, off, e, Nat.lt_of_lt_of_le hlt hg.size, fun j u hu => (World.cell?_of_block (a := ⟨b, off + j, none⟩) (hg.block b hlt (fun e' => hk _ e (by injection e')))).trans (hc j u hu)⟩⟩
  subst hl'
  exact ⟨⟨cL, c', h1, h1b, (hb.put 1 _).of_ (by simp)⟩, keepR AL _ l h.rl h.nl, keepR AA' _ all' hr hn, h.nl, hn⟩
end Go.Proofs.Ytehlehfljgphkaa
