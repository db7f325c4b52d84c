/-
  The document's moves: what lies in memory; Acked, Add, each walked once.
-/
import Derived.Test.YtehlehfljgphkaaAcked
import Derived.Test.YtehlehfljgphkaaReg
import Derived.Deep.RegionHeld3
import Derived.Deep.AppendLies
namespace Go.Proofs.Ytehlehfljgphkaa
open Go.RowKit

/-- Block gw is the document's Moves: these are saved, all these ever were. -/
structure Rm (w : World) (gw : Nat) (l all : List Cmd) (AL AA : Option Addr) : Prop where
  blk : ∃ cL cA, l.length ≤ cL ∧ cL ≤ maxLen ∧ Blk w gw 29 #[.slice AL l.length cL, .slice AA all.length cA]
  rl : Rc w w.heap.size AL l.length l
  ra : Rc w w.heap.size AA all.length all
  nl : ∀ ad, AL = some ad → ad.block ≠ gw
  na : ∀ ad, AA = some ad → ad.block ≠ gw
theorem Rm.keep {w w' : World} {gw : Nat} {l all : List Cmd} {AL AA : Option Addr} (h : Rm w gw l all AL AA) (hs : w.heap.size ≤ w'.heap.size) (hg : w'.heap[gw]? = w.heap[gw]?)
    (hl : ∀ ad, AL = some ad → ad.block < w.heap.size → w'.heap[ad.block]? = w.heap[ad.block]?) (ha : ∀ ad, AA = some ad → ad.block < w.heap.size → w'.heap[ad.block]? = w.heap[ad.block]?) : Rm w' gw l all AL AA := by
  obtain ⟨cL, cA, h1, h1b, hb⟩ := h.blk
  have keepR : ∀ (A : Option Addr) (xs : List Cmd), Rc w w.heap.size A xs.length xs → (∀ ad, A = some ad → ad.block < w.heap.size → w'.heap[ad.block]? = w.heap[ad.block]?) → Rc w' w'.heap.size A xs.length xs := fun A xs hr hk =>
    ⟨rfl, fun h0 => by
      obtain ⟨b, off, e, hlt, hc⟩ := hr.2 h0
      exact ⟨b, off, e, by omega, fun j u hu => (World.cell?_of_block (a := ⟨b, off + j, none⟩) (hk ⟨b, off, none⟩ e hlt)).trans (hc j u hu)⟩⟩
  exact ⟨⟨cL, cA, h1, h1b, hg.trans hb⟩, keepR AL l h.rl hl, keepR AA all h.ra ha, h.nl, h.na⟩
theorem Rm.grown {w w' : World} {gw : Nat} {l all : List Cmd} {AL AA : Option Addr} (h : Rm w gw l all AL AA) (hg : w.grownBy w' none) : Rm w' gw l all AL AA := by
  obtain ⟨cL, cA, h1, _, hb⟩ := h.blk
  exact h.keep hg.size (hg.block gw hb.lt (by simp)) (fun ad _ hl => hg.block _ hl (by simp)) (fun ad _ hl => hg.block _ hl (by simp))
theorem Rg.tail_ {α : Type} {sz : Nat} {cl : α → List Value} (hcl : ∀ x, (cl x).length = sz) {w : World} {B n : Nat} {A : Option Addr} {xs : List α} (h : Rg sz cl w B A n xs) (k : Nat) : Rg sz cl w B (A.map fun x => x.add (k * sz)) (n - k) (xs.drop k) := by
  refine ⟨by rw [List.length_drop, h.1], fun h0 => ?_⟩
  obtain ⟨b, off, rfl, hb, hc⟩ := h.2 (by omega)
  refine ⟨b, off + k * sz, by rw [Option.map_some, Addr.add_mid], hb, fun j u hu => ?_⟩
  rw [← flat_drop hcl, List.getElem?_drop] at hu
  have := hc _ u hu
  rwa [← Nat.add_assoc] at this
theorem Rg.of_len {α : Type} {sz : Nat} {cl : α → List Value} {w : World} {B n m : Nat} {A : Option Addr} {xs : List α} (h : Rg sz cl w B A n xs) (e : n = m) : Rg sz cl w B A m xs := e ▸ h
theorem Rg.last_ {α : Type} {sz : Nat} {cl : α → List Value} {w : World} {B : Nat} {A : Option Addr} {xs : List α} (h : xs.length = 0) : Rg sz cl w B A 0 xs := ⟨h, fun h0 => absurd h0 (by omega)⟩
theorem add_block (a : Addr) (k : Nat) : (a.add k).block = a.block := by unfold Addr.add; split <;> rfl
/-- Others are saved. -/
theorem Rm.put0 {w : World} {gw : Nat} {l all : List Cmd} {AL AA : Option Addr} (h : Rm w gw l all AL AA) (AL' : Option Addr) (n' c' : Nat) (l' : List Cmd) (hr : Rc w w.heap.size AL' n' l') (hc : n' ≤ c') (hm : c' ≤ maxLen) (hn : ∀ ad, AL' = some ad → ad.block ≠ gw) :
    Rm (w.setCell ⟨gw, 0, none⟩ (.slice AL' n' c')) gw l' all AL' AA := by
  obtain ⟨cL, cA, h1, h1b, hb⟩ := h.blk
  have hl' : l'.length = n' := hr.1
  have hg := only_put (World.grownBy.refl w (some gw)) 0 (.slice AL' n' c')
  have keepR : ∀ (A : Option Addr) (m : Nat) (xs : List Cmd), Rc w w.heap.size A m xs → (∀ ad, A = some ad → ad.block ≠ gw) → Rc (w.setCell ⟨gw, 0, none⟩ (.slice AL' n' c')) (w.setCell ⟨gw, 0, none⟩ (.slice AL' n' c')).heap.size A m xs := fun A m xs hr hk =>
    ⟨hr.1, fun h0 => by
      obtain ⟨b, off, e, hlt, hc⟩ := hr.2 h0
      exact ⟨b, off, e, Nat.lt_of_lt_of_le hlt hg.size, fun j u hu => (World.cell?_of_block (a := ⟨b, off + j, none⟩) (hg.block b hlt (fun e' => hk _ e (by injection e')))).trans (hc j u hu)⟩⟩
  subst hl'
  exact ⟨⟨c', cA, hc, hm, (hb.put 0 _).of_ (by simp)⟩, keepR AL' _ l' hr hn, keepR AA _ all h.ra h.na, hn, h.na⟩
theorem dist_newer (a b : Int) : decide (dist a b ≤ 0) = !newer a b := by
  unfold newer
  by_cases h : 0 < dist a b
  · rw [decide_eq_true h, decide_eq_false (by omega)]; rfl
  · rw [decide_eq_false h, decide_eq_true (by omega)]; rfl

set_option maxRecDepth 100000 in
set_option maxHeartbeats 1500000 in
/-- **Acked** of the document's. -/
theorem refacked_calls (gw : Nat) (l all : List Cmd) (AL AA : Option Addr) (q : Int) (hq : 0 ≤ q ∧ q < 65536) (hs : ∀ c ∈ l, 0 ≤ c.seq ∧ c.seq < 65536) (hl : l.length ≤ 1000000) (w : World) (h : Rm w gw l all AL AA) :
    Calls Try.prog 13 #[.pointer (some ⟨gw, 0, none⟩), .int .u16 q] w fun e w' => e = .returned (.int .i64 (ackN q l : Int)) ∧ (∃ AL', Rm w' gw (l.drop (ackN q l)) all AL' AA ∧ ∀ ad', AL' = some ad' → ∃ ad, AL = some ad ∧ ad'.block = ad.block) ∧ w.grownBy w' (some gw) := by
  have HR := Lib.hid h
  obtain ⟨cL, cA, hcl, hcm, hb⟩ := h.blk
  unfold maxLen at hcm
  have c0 := hb.cell 0
  have f0 := hb.free 0
  simp only [List.getElem?_toArray, List.getElem?_cons_zero] at c0
  have HB := Lib.hid hb
  have HS := Lib.hid hs
  obtain ⟨n, hn⟩ : ∃ n, l.length = n := ⟨_, rfl⟩
  rw [hn] at c0 hl hcl
  have HN := Lib.hid hn
  clear h hb hs hn
  go_enter Try.func13, Try.ntmps13
  go_wp2_with fail
  go_loopw [5] (fun i wr => ∃ k : Nat, k ≤ n ∧ i = .int .i64 k ∧ Hid (∀ (j : Nat) (d : Cmd), j < k → l[j]? = some d → newer d.seq q = false) ∧ wr = w) (fun i _ => n - (intOf i).toNat)
  case atStart => exact ⟨0, by omega, rfl, Lib.hid (fun j d hj => absurd hj (by omega)), rfl⟩
  case round =>
    obtain ⟨k, hk, rfl, HNW, rfl⟩ := hrel
    by_cases hlt : k < n
    · obtain ⟨b, off, x, rfl, hbl, hx, hr⟩ := HR.out.rl.at_ Cmd.cl_len (by rw [HN.out]; exact hlt)
      have HX := Lib.hid hx
      have hsq := HS.out x (List.mem_of_getElem? hx)
      obtain ⟨sq, bt, dx, dy, t⟩ := x
      obtain ⟨d0, _, _, _, _⟩ := cmd_cells hr
      dsimp only at hsq
      have HD := Lib.hid (refdist_calls sq q wr hsq hq)
      have hdn := dist_newer sq q
      clear hr hbl hx
      rcases hnw : newer sq q with _ | _
      · rw [hnw] at hdn
        have HW := Lib.hid hnw
        clear hnw
        go_wp2_with (go_at_call 28; refine HD.out.mono ?_; rintro e w1 ⟨rfl, rfl⟩)
        go_roundw
        case rel => exact ⟨k + 1, by omega, by go_num, Lib.hid (fun j d hj hd => by
          rcases Nat.lt_or_ge j k with h | h
          · exact HNW.out j d h hd
          · obtain rfl : j = k := by omega
            rw [HX.out] at hd
            injection hd with hd
            subst hd
            exact HW.out), trivial⟩
        case measure => simp [intOf]; omega
      · rw [hnw] at hdn
        have HK : Hid (ackN q l = k) := Lib.hid (ackN_at HX.out hnw HNW.out)
        clear hnw
        go_wp2_with (go_at_call 28; refine HD.out.mono ?_; rintro e w1 ⟨rfl, rfl⟩)
        have HT : Hid (Rc wr wr.heap.size (some ⟨b, off + k * 5, none⟩) (n - k) (l.drop k)) := Lib.hid (by
          have := (HR.out.rl.tail_ Cmd.cl_len k).of_len (m := n - k) (by rw [HN.out])
          rwa [Option.map_some, Addr.add_mid] at this)
        go_ret
        refine ⟨by rw [HK.out]; rfl, ⟨some ⟨b, off + k * 5, none⟩, by rw [HK.out]; exact HR.out.put0 (some ⟨b, off + k * 5, none⟩) (n - k) (cL - k) _ HT.out (by omega) (by unfold maxLen; omega) (fun ad e => by injection e with e; subst e; exact HR.out.nl ⟨b, off, none⟩ rfl), fun ad e => ?_⟩, only_put (World.grownBy.refl _ _) 0 _⟩
        · injection e with e; subst e; exact ⟨_, rfl, rfl⟩
    · obtain rfl : k = n := by omega
      have HK : Hid (ackN q l = k) := Lib.hid (by rw [← HN.out]; exact ackN_all fun j d hd => HNW.out j d (by rw [← HN.out]; exact (List.getElem?_eq_some_iff.1 hd).1) hd)
      go_wp2_with fail
      all_goals
        go_ret
      · refine ⟨by rw [HK.out]; rfl, ⟨AL, by rw [HK.out]; exact HR.out.put0 AL 0 0 _ (Rg.last_ (by rw [List.length_drop, HN.out]; omega)) (by omega) (by unfold maxLen; omega) HR.out.nl, fun ad e => ⟨ad, e, rfl⟩⟩, only_put (World.grownBy.refl _ _) 0 _⟩
      · refine ⟨by rw [HK.out]; rfl, ⟨AL.map fun x => x.add (k * 5), by rw [HK.out]; exact HR.out.put0 (AL.map fun x => x.add (k * 5)) 0 (cL - k) _ (Rg.last_ (by rw [List.length_drop, HN.out]; omega)) (by omega) (by unfold maxLen; omega) (fun ad e => by obtain ⟨x, hx, rfl⟩ := Option.map_eq_some_iff.1 e; rw [add_block]; exact HR.out.nl _ hx), fun ad e => ?_⟩, only_put (World.grownBy.refl _ _) 0 _⟩
        · obtain ⟨x, hx, rfl⟩ := Option.map_eq_some_iff.1 e; exact ⟨x, hx, add_block _ _⟩
end Go.Proofs.Ytehlehfljgphkaa
