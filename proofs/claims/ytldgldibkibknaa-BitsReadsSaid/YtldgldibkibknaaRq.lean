import Derived.Test.YtldgldibkibknaaGet2
namespace Go.Proofs.Ytldgldibkibknaa
open Go.RowKit

/-- Block g is a reader of these bytes, at this bit; A is where its row lies. -/
structure Rq (w : World) (g : Nat) (A : Option Addr) (l : List Nat) (a : Nat) : Prop where
  rr : Rr w g l a
  lies : ∃ c u, Blk w g 60 #[.slice A l.length c, u]
/-- Two readers lie apart. -/
def Ap (g : Nat) (A : Option Addr) (g' : Nat) (A' : Option Addr) : Prop := g ≠ g' ∧ (∀ ad, A = some ad → ad.block ≠ g') ∧ (∀ ad, A' = some ad → ad.block ≠ g)
theorem Ap.swap {g g' : Nat} {A A' : Option Addr} (h : Ap g A g' A') : Ap g' A' g A := ⟨fun e => h.1 e.symm, h.2.2, h.2.1⟩

section
variable {w w' : World} {g g' a : Nat} {A A' : Option Addr} {l : List Nat}
theorem Rq.row (h : Rq w g A l a) : ∃ c, Blk w g 60 #[.slice A l.length c, .int .i64 a] ∧ Rd w g A l.length (l.map bv) := by
  obtain ⟨⟨A0, c0, hb, hr⟩, _⟩ := h.rr
  obtain ⟨c, u, hb2⟩ := h.lies
  have e := hb.symm.trans hb2
  simp at e
  obtain ⟨⟨rfl, _⟩, _⟩ := e
  exact ⟨c0, hb, hr⟩
theorem Rq.of_ (h : Rr w' g l a) {l2 : List Nat} {a2 : Nat} (h2 : Rq w g A l2 a2) (hl : l2 = l) (hs : Same0 g w w') : Rq w' g A l a := by
  subst hl
  obtain ⟨c, u, hb⟩ := h2.lies
  obtain ⟨u', hb'⟩ := hs _ _ hb
  exact ⟨h, c, u', hb'⟩
theorem Rq.other (h : Rq w g A l a) (hg : w.grownBy w' (some g')) (hap : Ap g A g' A') : Rq w' g A l a := by
  obtain ⟨c, hb, hr⟩ := h.row
  have hb' : Blk w' g 60 #[.slice A l.length c, .int .i64 a] := hb.grown hg (fun e => hap.1 (by injection e))
  refine ⟨⟨⟨A, c, hb', hr.1, fun h0 => ?_⟩, h.rr.small, h.rr.at_le, h.rr.len⟩, c, _, hb'⟩
  obtain ⟨b, off, e, hlt, hc⟩ := hr.2 h0
  refine ⟨b, off, e, hlt, fun j u hu => (World.cell?_of_block (hg.block b (Nat.lt_trans hlt hb.lt) fun e2 => ?_)).trans (hc j u hu)⟩
  injection e2 with e2
  exact hap.2.1 _ e e2
theorem Rq.grown (h : Rq w g A l a) (hg : w.grownBy w' none) : Rq w' g A l a := by
  obtain ⟨c, u, hb⟩ := h.lies
  exact ⟨h.rr.grown hg, c, u, hb.grown hg (by simp)⟩
theorem Rq.drewN (h : Rq w g A l a) (n : Nat) : Rq (w.drewN n) g A l a := ⟨h.rr.drewN n, h.lies⟩
end

/-- **Get**, of a reader whose row is known. -/
theorem getq_calls (g : Nat) (A : Option Addr) (l : List Nat) (a : Nat) (x : Int) (w : World) (h : Rq w g A l a) :
    Calls Try.prog 17 #[.pointer (some ⟨g, 0, none⟩), .int .i64 x] w fun e w' => e = .returned (.tuple #[.int .u64 ((got l a (inn x)).1 : Nat), .bool (got l a (inn x)).2.1]) ∧ Rq w' g A l (got l a (inn x)).2.2 ∧ w.grownBy w' (some g) :=
  (get2_calls g l a x w h.rr).mono fun _ _ ⟨he, h1, h2, h3⟩ => ⟨he, Rq.of_ h1 h rfl h3, h2⟩

/-- **NewReader**, and where its row lies. -/
theorem newq_calls (B n c : Nat) (A : Option Addr) (l : List Nat) (hn : n ≤ 100000) (hx : ∀ x ∈ l, x < 256) (w : World) (h : Rd w B A n (l.map bv)) (hB : B ≤ w.heap.size) :
    Calls Try.prog 16 #[.slice A n c] w fun e w' => ∃ g A1, e = .returned (.pointer (some ⟨g, 0, none⟩)) ∧ Rq w' g A1 l 0 ∧ w.heap.size ≤ g ∧ (∀ ad, A1 = some ad → w.heap.size ≤ ad.block ∧ ad.block < g) ∧ w.grownBy w' none := by
  have HR := Lib.hid h
  have hln : l.length = n := by simpa using h.1
  clear h
  go_enter Try.func16, Try.ntmps16
  go_wp2_with (go_at_call 27; refine (clone_calls B n c A l (by omega) w HR.out hB).mono ?_; rintro e w1 ⟨A', c', rfl, h1, h2⟩; have H1 := Lib.hid h1; have H2 := Lib.hid h2; clear h1 h2)
  go_ret
  have hr := rd_of_own H1.out
  have hb : Blk (w1.alloc (.cells #[.slice A' n c', .int .i64 0] 60)) w1.heap.size 60 #[.slice A' l.length c', .int .i64 (0 : Nat)] := by rw [hln]; exact Blk.new w1 60 _
  refine ⟨_, A', rfl, ⟨⟨⟨A', c', hb, ?_⟩, hx, by simp, by omega⟩, c', _, hb⟩, H2.out.size, fun ad e => ?_, only_trans H2.out (World.grownBy_alloc w1 _ none)⟩
  · rw [hln]
    exact hr.keep fun p hp => World.cell?_of_block (Below.heap_alloc w1 _ _ hp)
  · subst e
    exact H1.out.lt ad.block rfl
end Go.Proofs.Ytldgldibkibknaa
