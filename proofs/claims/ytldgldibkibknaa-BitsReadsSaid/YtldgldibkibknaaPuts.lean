/-
  Slices of puts that read as lists.
-/
import Derived.Test.YtldgldibkibknaaWhole
import Derived.Test.YtldgldibkibknaaTx3
import Derived.Deep.RegionWith
import Derived.Deep.MidRow
import Derived.Lib.SliceRun
import Derived.IntWalk
namespace Go.Proofs.Ytldgldibkibknaa
open Go.RowKit

/-- The slice (A, n) reads as the list xs of structs of sz cells (cl: a struct's cells), and lies below block B. -/
def Rg {α : Type} (_sz : Nat) (cl : α → List Value) (w : World) (B : Nat) (A : Option Addr) (n : Nat) (xs : List α) : Prop :=
  xs.length = n ∧ (0 < n → ∃ b off, A = some ⟨b, off, none⟩ ∧ b < B ∧ w.rangeAt b off (xs.flatMap cl))

section
variable {α : Type} {sz : Nat} {cl : α → List Value}
theorem rflat_len (hcl : ∀ x, (cl x).length = sz) : ∀ xs : List α, (xs.flatMap cl).length = xs.length * sz
  | [] => by simp
  | x :: r => by rw [List.flatMap_cons, List.length_append, hcl, rflat_len hcl r, List.length_cons, Nat.add_mul]; omega
theorem rflat_drop (hcl : ∀ x, (cl x).length = sz) : ∀ (k : Nat) (xs : List α), (xs.flatMap cl).drop (k * sz) = (xs.drop k).flatMap cl
  | 0, xs => by simp
  | k + 1, [] => by simp
  | k + 1, x :: r => by
    rw [List.flatMap_cons, List.drop_succ_cons, ← rflat_drop hcl k r, Nat.add_mul, Nat.one_mul, Nat.add_comm, List.drop_append, hcl]
    rw [List.drop_eq_nil_of_le (by rw [hcl]; omega), Nat.add_sub_cancel_left, List.nil_append]
theorem rflat_at (hcl : ∀ x, (cl x).length = sz) (xs : List α) (k : Nat) (x : α) (hx : xs[k]? = some x) (j : Nat) (u : Value) (hu : (cl x)[j]? = some u) : (xs.flatMap cl)[k * sz + j]? = some u := by
  have h1 : (xs.flatMap cl)[k * sz + j]? = ((xs.flatMap cl).drop (k * sz))[j]? := by rw [List.getElem?_drop]
  obtain ⟨hk, hxk⟩ := List.getElem?_eq_some_iff.1 hx
  rw [h1, rflat_drop hcl, List.drop_eq_getElem_cons hk, hxk, List.flatMap_cons, List.getElem?_append_left (List.getElem?_eq_some_iff.1 hu).1]
  exact hu
variable {w w' : World} {B B' n : Nat} {A : Option Addr} {xs : List α}
theorem Rg.at_ (hcl : ∀ x, (cl x).length = sz) (h : Rg sz cl w B A n xs) {k : Nat} (hk : k < n) : ∃ b off x, A = some ⟨b, off, none⟩ ∧ b < B ∧ xs[k]? = some x ∧ w.rangeAt b (off + k * sz) (cl x) := by
  obtain ⟨b, off, e, hb, hc⟩ := h.2 (by omega)
  have hl : k < xs.length := by have := h.1; omega
  refine ⟨b, off, xs[k], e, hb, List.getElem?_eq_getElem hl, fun j u hu => ?_⟩
  rw [Nat.add_assoc]
  exact hc _ _ (rflat_at hcl xs k _ (List.getElem?_eq_getElem hl) j u hu)
theorem Rg.keep (h : Rg sz cl w B A n xs) (hk : ∀ p : Addr, p.block < B → w'.cell? p = w.cell? p) : Rg sz cl w' B A n xs :=
  ⟨h.1, fun hn => by
    obtain ⟨b, off, e, hb, hc⟩ := h.2 hn
    exact ⟨b, off, e, hb, fun j u hu => (hk _ hb).trans (hc j u hu)⟩⟩
theorem Rg.more (h : Rg sz cl w B A n xs) (hB : B ≤ B') : Rg sz cl w B' A n xs :=
  ⟨h.1, fun hn => by
    obtain ⟨b, off, e, hb, hc⟩ := h.2 hn
    exact ⟨b, off, e, by omega, hc⟩⟩
theorem Rg.below (h : Rg sz cl w B A n xs) (hb : Below B w w') : Rg sz cl w' B A n xs := h.keep fun _ hp => hb.cell hp
theorem Rg.grown (h : Rg sz cl w B A n xs) {row : Option Nat} (hg : w.grownBy w' row) (hB : B ≤ w.heap.size) (hr : ∀ g, row = some g → B ≤ g) : Rg sz cl w' B A n xs :=
  h.keep fun p hp => World.cell?_of_block (hg.block p.block (by omega) (fun e => by have := hr _ e.symm; omega))
theorem Rg.nil_ (w : World) (B : Nat) (A : Option Addr) : Rg sz cl w B A 0 ([] : List α) := ⟨rfl, fun h => absurd h (by omega)⟩
theorem Rg.take_ (h : Rg sz cl w B A n xs) {k : Nat} (hk : k ≤ n) : Rg sz cl w B A k (xs.take k) := by
  refine ⟨by rw [List.length_take, h.1]; omega, fun h0 => ?_⟩
  obtain ⟨b, off, e, hb, hc⟩ := h.2 (by omega)
  refine ⟨b, off, e, hb, fun j u hu => hc j u ?_⟩
  rw [← List.take_append_drop k xs, List.flatMap_append, List.getElem?_append_left (List.getElem?_eq_some_iff.1 hu).1]
  exact hu
/-- What the call owns reads as it is owned. -/
theorem own_rg {base : Nat} {e : TypeId} {c : Nat} (hcl : ∀ x, (cl x).length = sz) (hsz : 0 < sz) (h : w.ownsRow base e sz (.slice A n c) n (xs.flatMap cl)) : Rg sz cl w w.heap.size A n xs := by
  have hl : xs.length = n := by
    have := h.1
    rw [rflat_len hcl] at this
    exact Nat.eq_of_mul_eq_mul_right hsz this
  refine ⟨hl, fun hn => ?_⟩
  obtain ⟨g, cap, hv, _, hlt⟩ := h.form hn
  have hA : A = some ⟨g, 0, none⟩ := by injection hv
  subst hA
  refine ⟨g, 0, rfl, hlt, fun j u hu => ?_⟩
  have := h.cells (g := g) rfl j u hu
  rwa [Addr.add_mid] at this
end

theorem undrawn {w w' : World} {r : Option Nat} (h : w.drew.grownBy w' r) : w.grownBy w' r := ⟨h.os, h.tape, h.output, h.size, h.block⟩
/-- A frame, some slots written. -/
def puts (a : Act) : List (Nat × Value) → Act
  | [] => a
  | x :: r => puts (a.put (some x.1) x.2) r
/-- What a region leaves: the frame F, a world that meets I. -/
def Leaves (F : Act) (I : World → Prop) : Exit → Act → World → Prop := fun e a w => e = .normal ∧ a = F ∧ I w
theorem Leaves.panic {F : Act} {I : World → Prop} {d : Option Tmp} {v : Value} : ∀ c a w, Leaves F I (.panic c) (a.put d v) w → Leaves F I (.panic c) a w := fun _ _ _ h => by cases h.1
theorem region_post {P : Program} {ops : Array Oper} {id : Nat} {a : Act} {w : World} {Q : Exit → Act → World → Prop} (l : List (Nat × Value)) (I : World → Prop) (hm : P.follows .mixedOrders = true)
    (h : wpAny P .any ops (Leaves (puts a l) I) ops.size (Array.replicate ops.size false) a w.drew) (hq : ∀ w', I w' → Q .normal (puts a l) w') : (Code.region id ops true).wp P Q a w :=
  wp_mono (wp_region_any hm h) fun e a w ⟨he, ha, hi⟩ => by subst he; subst ha; exact hq w hi
/-- A put. -/
structure Pt where
  n : Int
  b : Int
  s : Bool
def Pt.cl (c : Pt) : List Value := [.int .i64 c.n, .int .i64 c.b, .bool c.s]
theorem Pt.cl_len (c : Pt) : c.cl.length = 3 := rfl
/-- Puts in memory. -/
abbrev Rp (w : World) (B : Nat) (A : Option Addr) (n : Nat) (cs : List Pt) : Prop := Rg 3 Pt.cl w B A n cs
theorem pt_cells {w : World} {b o : Nat} {p : Pt} (h : w.rangeAt b o p.cl) : w.cell? ⟨b, o, none⟩ = some (.int .i64 p.n) ∧ w.cell? ⟨b, o + 1, none⟩ = some (.int .i64 p.b) ∧ w.cell? ⟨b, o + 2, none⟩ = some (.bool p.s) :=
  ⟨h 0 _ rfl, h 1 _ rfl, h 2 _ rfl⟩
/-- A put's bits. -/
def pb (p : Pt) : List Bool := hb (uw p.n) (inn p.b)
def pbs (l : List Pt) : List Bool := l.flatMap pb
theorem pb_le (p : Pt) : (pb p).length ≤ 64 := by unfold pb; rw [hb_len]; exact inn_le _
theorem pbs_nil : pbs [] = [] := rfl
theorem pbs_take (l : List Pt) (k : Nat) (p : Pt) (h : l[k]? = some p) : pbs (l.take (k + 1)) = pbs (l.take k) ++ pb p := by
  unfold pbs; rw [List.take_add_one, h, List.flatMap_append]; simp
theorem pbs_le : ∀ l : List Pt, (pbs l).length ≤ 64 * l.length
  | [] => by simp [pbs]
  | p :: r => by have := pb_le p; have := pbs_le r; unfold pbs at *; rw [List.flatMap_cons, List.length_append, List.length_cons]; omega
theorem pbs_take_le (l : List Pt) (k : Nat) : (pbs (l.take k)).length ≤ 64 * k := by
  have := pbs_le (l.take k)
  rw [List.length_take] at this
  omega

set_option maxRecDepth 100000 in
set_option maxHeartbeats 8000000 in
theorem write_calls (A : Option Addr) (n cap : Nat) (l : List Pt) (B : Nat) (w : World) (hn : n ≤ 9223372036854775807) (hR : Rp w B A n l) (hB : B ≤ w.heap.size) :
    Calls Try.prog 12 #[.slice A n cap] w fun e w' => ∃ g v, e = .returned (.tuple #[.pointer (some ⟨g, 0, none⟩), .string (tx (pbs (l.take 100)))]) ∧ Wr w' g (pbs (l.take 100)) v ∧ w.heap.size ≤ g ∧ w.grownBy w' none := by
  have HR := Lib.hid hR
  have HB := Lib.hid hB
  clear hR hB
  go_enter Try.func12, Try.ntmps12
  go_wp2_with fail
  have HW2 : Hid (OwnW w (w.alloc (.cells #[.slice none 0 0, .int .i64 0] 33)) w.heap.size (pbs (l.take 0))) := Lib.hid ⟨World.grownBy_alloc _ _ _, Nat.le_refl _, _, wr_new w⟩
  obtain ⟨w2, hw2⟩ : ∃ w2, w.alloc (.cells #[.slice none 0 0, .int .i64 0] 33) = w2 := ⟨_, rfl⟩
  obtain ⟨gw, hgw⟩ : ∃ gw, w.heap.size = gw := ⟨_, rfl⟩
  rw [hw2, hgw] at HW2
  rw [hw2, hgw]
  have HGW := Lib.hid hgw
  clear hw2 hgw
  go_loopw [5, 6] (fun sv i wr => ∃ (k : Nat) (S : ByteArray), k ≤ n ∧ k ≤ 100 ∧ sv = .string S ∧ i = .int .i64 k ∧ Hid (S = tx (pbs (l.take k))) ∧ Hid (OwnW w wr gw (pbs (l.take k)))) (fun _ i _ => n - (iv i).toNat)
  case atStart => exact ⟨0, _, by omega, by omega, rfl, rfl, Lib.hid rfl, HW2⟩
  case round =>
    obtain ⟨k, S, hk, hk100, rfl, rfl, HS, HW⟩ := hrel
    obtain ⟨hg, h0, v, hwr⟩ := HW.out
    have HG := Lib.hid hg
    have H0 := Lib.hid h0
    have HWR := Lib.hid hwr
    clear hg h0 hwr
    by_cases hlt : k < n ∧ k < 100
    · obtain ⟨hlt, hlt100⟩ := hlt
      obtain ⟨b, off, p, rfl, hbB, hx, hr⟩ := HR.out.at_ Pt.cl_len hlt
      have hbw : b < w.heap.size := by have := HB.out; omega
      obtain ⟨c0, c1, c2⟩ := pt_cells (w := wr) (b := b) (o := off + k * 3) (p := p) (fun j u hu => HG.out.cell (hr j u hu) (by simp))
      have HX := Lib.hid hx
      have HPB : Hid (pb p = hb (uw p.n) (inn p.b)) := Lib.hid rfl
      obtain ⟨pn, pbb, ps⟩ := p
      have hu := uw_wrap pn
      have HCC := Lib.hid (fun (j : Nat) (u : Value) (hu : (Pt.cl ⟨pn, pbb, ps⟩)[j]? = some u) => hr j u hu)
      obtain ⟨S2, hS2⟩ : ∃ S2, S ++ tx (hb (uw pn) (inn pbb)) = S2 := ⟨_, rfl⟩
      have HS2 : Hid (S2 = tx (pbs (l.take (k + 1)))) := Lib.hid (by rw [← hS2, HS.out, tx_app, pbs_take l k _ HX.out, HPB.out])
      have HPL : Hid ((pbs (l.take k)).length ≤ 1000000) := Lib.hid (by have := pbs_take_le l k; omega)
      have hadd : ∀ W, (Op.stringOp .add S (tx (hb (uw pn) (inn pbb)))).run Try.prog W = .ok (.string S2) W := fun W => by
        rw [run_string_add_sum W _ _ (by rw [HS.out, tx_size, tx_size, hb_len]; have := HPL.out; have := inn_le pbb; omega), hS2]
      clear hr hx hbB hS2
      rcases ps with _ | _
      · go_wp2_with fail
        refine region_post [(36, .pointer (some ⟨gw, 0, none⟩)), (37, .slice (some ⟨b, off, none⟩) n cap), (38, .int .i64 k), (39, .pointer (some ⟨b, off + k * 3, none⟩)), (40, .pointer (some ⟨b, off + k * 3, none⟩)), (41, .int .i64 pn), (42, .int .u64 (uw pn : Nat)), (43, .slice (some ⟨b, off, none⟩) n cap), (44, .int .i64 k), (45, .pointer (some ⟨b, off + k * 3, none⟩)), (46, .pointer (some ⟨b, off + k * 3 + 1, none⟩)), (47, .int .i64 pbb), (48, .tuple #[])] (fun w' => Hid (OwnW w w' gw (pbs (l.take (k + 1))))) (by kernel_rfl) ?_ ?_
        · try (change wpAny _ _ _ _ _ _ _ (World.drew _))
          refine take_k (i := 0) (v := ?_) rfl (by kernel_rfl) (by kernel_rfl) (by kernel_rfl) Leaves.panic (Or.inl ⟨by rfl, ?_⟩) (fun K hK => ?_)
          rotate_left 1
          · (intro w; go_simp; try with_reducible rfl)
          go_simp
          refine hK _ _ ?_
          clear hK K
          refine take_k (i := 1) (v := ?_) rfl (by kernel_rfl) (by kernel_rfl) (by kernel_rfl) Leaves.panic (Or.inl ⟨by rfl, ?_⟩) (fun K hK => ?_)
          rotate_left 1
          · (intro w; go_simp; try with_reducible rfl)
          go_simp
          refine hK _ _ ?_
          clear hK K
          refine take_k (i := 2) (v := ?_) rfl (by kernel_rfl) (by kernel_rfl) (by kernel_rfl) Leaves.panic (Or.inl ⟨by rfl, ?_⟩) (fun K hK => ?_)
          rotate_left 1
          · (intro w; go_simp; try with_reducible rfl)
          go_simp
          refine hK _ _ ?_
          clear hK K
          refine take_k (i := 7) (v := ?_) rfl (by kernel_rfl) (by kernel_rfl) (by kernel_rfl) Leaves.panic (Or.inl ⟨by rfl, ?_⟩) (fun K hK => ?_)
          rotate_left 1
          · (intro w; go_simp; try with_reducible rfl)
          go_simp
          refine hK _ _ ?_
          clear hK K
          refine take_k (i := 8) (v := ?_) rfl (by kernel_rfl) (by kernel_rfl) (by kernel_rfl) Leaves.panic (Or.inl ⟨by rfl, ?_⟩) (fun K hK => ?_)
          rotate_left 1
          · (intro w; go_simp; try with_reducible rfl)
          go_simp
          refine hK _ _ ?_
          clear hK K
          refine wpAny_ready (rs := [3, 9]) (by kernel_rfl) (by simp) ?_
          refine AllReady.cons rfl (fun K hK => ?_) ?_
          · go_simp
            refine hK _ _ ?_
            clear hK K
            refine take_k (i := 4) (v := ?_) rfl (by kernel_rfl) (by kernel_rfl) (by kernel_rfl) Leaves.panic (Or.inl ⟨by rfl, ?_⟩) (fun K hK => ?_)
            rotate_left 1
            · (intro w; go_simp; try with_reducible rfl)
            go_simp
            refine hK _ _ ?_
            clear hK K
            refine wpAny_ready (rs := [5, 9]) (by kernel_rfl) (by simp) ?_
            refine AllReady.cons rfl (fun K hK => ?_) ?_
            · go_simp
              refine hK _ _ ?_
              clear hK K
              refine take_k (i := 6) (v := ?_) rfl (by kernel_rfl) (by kernel_rfl) (by kernel_rfl) Leaves.panic (Or.inl ⟨by rfl, ?_⟩) (fun K hK => ?_)
              rotate_left 1
              · (intro w; go_simp; try with_reducible rfl)
              go_simp
              refine hK _ _ ?_
              clear hK K
              refine wpAny_ready (rs := [9]) (by kernel_rfl) (by simp) ?_
              refine AllReady.cons rfl (fun K hK => ?_) ?_
              · go_simp
                refine hK _ _ ?_
                clear hK K
                refine take_k (i := 10) (v := ?_) rfl (by kernel_rfl) (by kernel_rfl) (by kernel_rfl) Leaves.panic (Or.inl ⟨by rfl, ?_⟩) (fun K hK => ?_)
                rotate_left 1
                · (intro w; go_simp; try with_reducible rfl)
                go_simp
                refine hK _ _ ?_
                clear hK K
                refine wpAny_ready (rs := [11]) (by kernel_rfl) (by simp) ?_
                refine AllReady.cons rfl (fun K hK => ?_) ?_
                · go_simp
                  refine hK _ _ ?_
                  clear hK K
                  refine wpAny_ready (rs := [12]) (by kernel_rfl) (by simp) ?_
                  refine AllReady.cons rfl (fun K hK => ?_) ?_
                  · go_simp
                    refine (put_calls gw (uw pn) pbb (uw_lt pn) _ HPL.out _ _ (HWR.out.grown (only_drawn (World.grownBy.refl wr none) 1))).mono ?_
                    rintro e w3 ⟨rfl, v3, hw3, _, hf3⟩
                    have HW3 : Hid (OwnW w w3 gw (pbs (l.take (k + 1)))) := Lib.hid (by rw [pbs_take l k _ HX.out, HPB.out]; exact OwnW.put (only_drawn HG.out 1) H0.out (HWR.out.grown (only_drawn (World.grownBy.refl wr none) 1)) hf3 hw3)
                    clear hw3 hf3
                    try go_simp
                    refine hK _ _ ?_
                    clear hK K
                    refine wpAny_done (by kernel_rfl) ?_ _
                    refine ⟨rfl, ?_, HW3⟩
                    simp only [puts]
                    go_simp
                  exact AllReady.nil
                exact AllReady.nil
              exact AllReady.nil
            refine AllReady.cons rfl (fun K hK => ?_) ?_
            · go_simp
              refine hK _ _ ?_
              clear hK K
              refine take_k (i := 10) (v := ?_) rfl (by kernel_rfl) (by kernel_rfl) (by kernel_rfl) Leaves.panic (Or.inl ⟨by rfl, ?_⟩) (fun K hK => ?_)
              rotate_left 1
              · (intro w; go_simp; try with_reducible rfl)
              go_simp
              refine hK _ _ ?_
              clear hK K
              refine wpAny_ready (rs := [5, 11]) (by kernel_rfl) (by simp) ?_
              refine AllReady.cons rfl (fun K hK => ?_) ?_
              · go_simp
                refine hK _ _ ?_
                clear hK K
                refine take_k (i := 6) (v := ?_) rfl (by kernel_rfl) (by kernel_rfl) (by kernel_rfl) Leaves.panic (Or.inl ⟨by rfl, ?_⟩) (fun K hK => ?_)
                rotate_left 1
                · (intro w; go_simp; try with_reducible rfl)
                go_simp
                refine hK _ _ ?_
                clear hK K
                refine wpAny_ready (rs := [11]) (by kernel_rfl) (by simp) ?_
                refine AllReady.cons rfl (fun K hK => ?_) ?_
                · go_simp
                  refine hK _ _ ?_
                  clear hK K
                  refine wpAny_ready (rs := [12]) (by kernel_rfl) (by simp) ?_
                  refine AllReady.cons rfl (fun K hK => ?_) ?_
                  · go_simp
                    refine (put_calls gw (uw pn) pbb (uw_lt pn) _ HPL.out _ _ (HWR.out.grown (only_drawn (World.grownBy.refl wr none) 1))).mono ?_
                    rintro e w3 ⟨rfl, v3, hw3, _, hf3⟩
                    have HW3 : Hid (OwnW w w3 gw (pbs (l.take (k + 1)))) := Lib.hid (by rw [pbs_take l k _ HX.out, HPB.out]; exact OwnW.put (only_drawn HG.out 1) H0.out (HWR.out.grown (only_drawn (World.grownBy.refl wr none) 1)) hf3 hw3)
                    clear hw3 hf3
                    try go_simp
                    refine hK _ _ ?_
                    clear hK K
                    refine wpAny_done (by kernel_rfl) ?_ _
                    refine ⟨rfl, ?_, HW3⟩
                    simp only [puts]
                    go_simp
                  exact AllReady.nil
                exact AllReady.nil
              refine AllReady.cons rfl (fun K hK => ?_) ?_
              · go_simp
                refine hK _ _ ?_
                clear hK K
                refine wpAny_ready (rs := [5]) (by kernel_rfl) (by simp) ?_
                refine AllReady.cons rfl (fun K hK => ?_) ?_
                · go_simp
                  refine hK _ _ ?_
                  clear hK K
                  refine take_k (i := 6) (v := ?_) rfl (by kernel_rfl) (by kernel_rfl) (by kernel_rfl) Leaves.panic (Or.inl ⟨by rfl, ?_⟩) (fun K hK => ?_)
                  rotate_left 1
                  · (intro w; go_simp; try with_reducible rfl)
                  go_simp
                  refine hK _ _ ?_
                  clear hK K
                  refine wpAny_ready (rs := [12]) (by kernel_rfl) (by simp) ?_
                  refine AllReady.cons rfl (fun K hK => ?_) ?_
                  · go_simp
                    refine (put_calls gw (uw pn) pbb (uw_lt pn) _ HPL.out _ _ (HWR.out.grown (only_drawn (World.grownBy.refl wr none) 1))).mono ?_
                    rintro e w3 ⟨rfl, v3, hw3, _, hf3⟩
                    have HW3 : Hid (OwnW w w3 gw (pbs (l.take (k + 1)))) := Lib.hid (by rw [pbs_take l k _ HX.out, HPB.out]; exact OwnW.put (only_drawn HG.out 1) H0.out (HWR.out.grown (only_drawn (World.grownBy.refl wr none) 1)) hf3 hw3)
                    clear hw3 hf3
                    try go_simp
                    refine hK _ _ ?_
                    clear hK K
                    refine wpAny_done (by kernel_rfl) ?_ _
                    refine ⟨rfl, ?_, HW3⟩
                    simp only [puts]
                    go_simp
                  exact AllReady.nil
                exact AllReady.nil
              exact AllReady.nil
            exact AllReady.nil
          refine AllReady.cons rfl (fun K hK => ?_) ?_
          · go_simp
            refine hK _ _ ?_
            clear hK K
            refine take_k (i := 10) (v := ?_) rfl (by kernel_rfl) (by kernel_rfl) (by kernel_rfl) Leaves.panic (Or.inl ⟨by rfl, ?_⟩) (fun K hK => ?_)
            rotate_left 1
            · (intro w; go_simp; try with_reducible rfl)
            go_simp
            refine hK _ _ ?_
            clear hK K
            refine wpAny_ready (rs := [3, 11]) (by kernel_rfl) (by simp) ?_
            refine AllReady.cons rfl (fun K hK => ?_) ?_
            · go_simp
              refine hK _ _ ?_
              clear hK K
              refine take_k (i := 4) (v := ?_) rfl (by kernel_rfl) (by kernel_rfl) (by kernel_rfl) Leaves.panic (Or.inl ⟨by rfl, ?_⟩) (fun K hK => ?_)
              rotate_left 1
              · (intro w; go_simp; try with_reducible rfl)
              go_simp
              refine hK _ _ ?_
              clear hK K
              refine wpAny_ready (rs := [5, 11]) (by kernel_rfl) (by simp) ?_
              refine AllReady.cons rfl (fun K hK => ?_) ?_
              · go_simp
                refine hK _ _ ?_
                clear hK K
                refine take_k (i := 6) (v := ?_) rfl (by kernel_rfl) (by kernel_rfl) (by kernel_rfl) Leaves.panic (Or.inl ⟨by rfl, ?_⟩) (fun K hK => ?_)
                rotate_left 1
                · (intro w; go_simp; try with_reducible rfl)
                go_simp
                refine hK _ _ ?_
                clear hK K
                refine wpAny_ready (rs := [11]) (by kernel_rfl) (by simp) ?_
                refine AllReady.cons rfl (fun K hK => ?_) ?_
                · go_simp
                  refine hK _ _ ?_
                  clear hK K
                  refine wpAny_ready (rs := [12]) (by kernel_rfl) (by simp) ?_
                  refine AllReady.cons rfl (fun K hK => ?_) ?_
                  · go_simp
                    refine (put_calls gw (uw pn) pbb (uw_lt pn) _ HPL.out _ _ (HWR.out.grown (only_drawn (World.grownBy.refl wr none) 1))).mono ?_
                    rintro e w3 ⟨rfl, v3, hw3, _, hf3⟩
                    have HW3 : Hid (OwnW w w3 gw (pbs (l.take (k + 1)))) := Lib.hid (by rw [pbs_take l k _ HX.out, HPB.out]; exact OwnW.put (only_drawn HG.out 1) H0.out (HWR.out.grown (only_drawn (World.grownBy.refl wr none) 1)) hf3 hw3)
                    clear hw3 hf3
                    try go_simp
                    refine hK _ _ ?_
                    clear hK K
                    refine wpAny_done (by kernel_rfl) ?_ _
                    refine ⟨rfl, ?_, HW3⟩
                    simp only [puts]
                    go_simp
                  exact AllReady.nil
                exact AllReady.nil
              refine AllReady.cons rfl (fun K hK => ?_) ?_
              · go_simp
                refine hK _ _ ?_
                clear hK K
                refine wpAny_ready (rs := [5]) (by kernel_rfl) (by simp) ?_
                refine AllReady.cons rfl (fun K hK => ?_) ?_
                · go_simp
                  refine hK _ _ ?_
                  clear hK K
                  refine take_k (i := 6) (v := ?_) rfl (by kernel_rfl) (by kernel_rfl) (by kernel_rfl) Leaves.panic (Or.inl ⟨by rfl, ?_⟩) (fun K hK => ?_)
                  rotate_left 1
                  · (intro w; go_simp; try with_reducible rfl)
                  go_simp
                  refine hK _ _ ?_
                  clear hK K
                  refine wpAny_ready (rs := [12]) (by kernel_rfl) (by simp) ?_
                  refine AllReady.cons rfl (fun K hK => ?_) ?_
                  · go_simp
                    refine (put_calls gw (uw pn) pbb (uw_lt pn) _ HPL.out _ _ (HWR.out.grown (only_drawn (World.grownBy.refl wr none) 1))).mono ?_
                    rintro e w3 ⟨rfl, v3, hw3, _, hf3⟩
                    have HW3 : Hid (OwnW w w3 gw (pbs (l.take (k + 1)))) := Lib.hid (by rw [pbs_take l k _ HX.out, HPB.out]; exact OwnW.put (only_drawn HG.out 1) H0.out (HWR.out.grown (only_drawn (World.grownBy.refl wr none) 1)) hf3 hw3)
                    clear hw3 hf3
                    try go_simp
                    refine hK _ _ ?_
                    clear hK K
                    refine wpAny_done (by kernel_rfl) ?_ _
                    refine ⟨rfl, ?_, HW3⟩
                    simp only [puts]
                    go_simp
                  exact AllReady.nil
                exact AllReady.nil
              exact AllReady.nil
            refine AllReady.cons rfl (fun K hK => ?_) ?_
            · go_simp
              refine hK _ _ ?_
              clear hK K
              refine wpAny_ready (rs := [3]) (by kernel_rfl) (by simp) ?_
              refine AllReady.cons rfl (fun K hK => ?_) ?_
              · go_simp
                refine hK _ _ ?_
                clear hK K
                refine take_k (i := 4) (v := ?_) rfl (by kernel_rfl) (by kernel_rfl) (by kernel_rfl) Leaves.panic (Or.inl ⟨by rfl, ?_⟩) (fun K hK => ?_)
                rotate_left 1
                · (intro w; go_simp; try with_reducible rfl)
                go_simp
                refine hK _ _ ?_
                clear hK K
                refine wpAny_ready (rs := [5]) (by kernel_rfl) (by simp) ?_
                refine AllReady.cons rfl (fun K hK => ?_) ?_
                · go_simp
                  refine hK _ _ ?_
                  clear hK K
                  refine take_k (i := 6) (v := ?_) rfl (by kernel_rfl) (by kernel_rfl) (by kernel_rfl) Leaves.panic (Or.inl ⟨by rfl, ?_⟩) (fun K hK => ?_)
                  rotate_left 1
                  · (intro w; go_simp; try with_reducible rfl)
                  go_simp
                  refine hK _ _ ?_
                  clear hK K
                  refine wpAny_ready (rs := [12]) (by kernel_rfl) (by simp) ?_
                  refine AllReady.cons rfl (fun K hK => ?_) ?_
                  · go_simp
                    refine (put_calls gw (uw pn) pbb (uw_lt pn) _ HPL.out _ _ (HWR.out.grown (only_drawn (World.grownBy.refl wr none) 1))).mono ?_
                    rintro e w3 ⟨rfl, v3, hw3, _, hf3⟩
                    have HW3 : Hid (OwnW w w3 gw (pbs (l.take (k + 1)))) := Lib.hid (by rw [pbs_take l k _ HX.out, HPB.out]; exact OwnW.put (only_drawn HG.out 1) H0.out (HWR.out.grown (only_drawn (World.grownBy.refl wr none) 1)) hf3 hw3)
                    clear hw3 hf3
                    try go_simp
                    refine hK _ _ ?_
                    clear hK K
                    refine wpAny_done (by kernel_rfl) ?_ _
                    refine ⟨rfl, ?_, HW3⟩
                    simp only [puts]
                    go_simp
                  exact AllReady.nil
                exact AllReady.nil
              exact AllReady.nil
            exact AllReady.nil
          exact AllReady.nil
        intro w3 HW3
        simp only [puts]
        go_simp
        obtain ⟨hg3, _⟩ := HW3.out
        have HG3 := Lib.hid hg3
        obtain ⟨c0, c1, c2⟩ := pt_cells (w := w3) (b := b) (o := off + k * 3) (p := ⟨pn, pbb, false⟩) (fun j u hu => HG3.out.cell (HCC.out j u hu) (by simp))
        clear hg3
        go_wp2_with fail
        refine region_post [(49, .string S), (50, .slice (some ⟨b, off, none⟩) n cap), (51, .int .i64 k), (52, .pointer (some ⟨b, off + k * 3, none⟩)), (53, .pointer (some ⟨b, off + k * 3, none⟩)), (54, .int .i64 pn), (55, .int .u64 (uw pn : Nat)), (56, .slice (some ⟨b, off, none⟩) n cap), (57, .int .i64 k), (58, .pointer (some ⟨b, off + k * 3, none⟩)), (59, .pointer (some ⟨b, off + k * 3 + 1, none⟩)), (60, .int .i64 pbb), (61, .string (tx (hb (uw pn) (inn pbb)))), (62, .string S2), (5, .string S2)] (fun w' => Hid (w3.grownBy w' none)) (by kernel_rfl) ?_ ?_
        · try (change wpAny _ _ _ _ _ _ _ (World.drew _))
          refine take_k (i := 0) (v := ?_) rfl (by kernel_rfl) (by kernel_rfl) (by kernel_rfl) Leaves.panic (Or.inl ⟨by rfl, ?_⟩) (fun K hK => ?_)
          rotate_left 1
          · (intro w; go_simp; try with_reducible rfl)
          go_simp
          refine hK _ _ ?_
          clear hK K
          refine take_k (i := 1) (v := ?_) rfl (by kernel_rfl) (by kernel_rfl) (by kernel_rfl) Leaves.panic (Or.inl ⟨by rfl, ?_⟩) (fun K hK => ?_)
          rotate_left 1
          · (intro w; go_simp; try with_reducible rfl)
          go_simp
          refine hK _ _ ?_
          clear hK K
          refine take_k (i := 2) (v := ?_) rfl (by kernel_rfl) (by kernel_rfl) (by kernel_rfl) Leaves.panic (Or.inl ⟨by rfl, ?_⟩) (fun K hK => ?_)
          rotate_left 1
          · (intro w; go_simp; try with_reducible rfl)
          go_simp
          refine hK _ _ ?_
          clear hK K
          refine take_k (i := 7) (v := ?_) rfl (by kernel_rfl) (by kernel_rfl) (by kernel_rfl) Leaves.panic (Or.inl ⟨by rfl, ?_⟩) (fun K hK => ?_)
          rotate_left 1
          · (intro w; go_simp; try with_reducible rfl)
          go_simp
          refine hK _ _ ?_
          clear hK K
          refine take_k (i := 8) (v := ?_) rfl (by kernel_rfl) (by kernel_rfl) (by kernel_rfl) Leaves.panic (Or.inl ⟨by rfl, ?_⟩) (fun K hK => ?_)
          rotate_left 1
          · (intro w; go_simp; try with_reducible rfl)
          go_simp
          refine hK _ _ ?_
          clear hK K
          refine wpAny_ready (rs := [3, 9]) (by kernel_rfl) (by simp) ?_
          refine AllReady.cons rfl (fun K hK => ?_) ?_
          · go_simp
            refine hK _ _ ?_
            clear hK K
            refine take_k (i := 4) (v := ?_) rfl (by kernel_rfl) (by kernel_rfl) (by kernel_rfl) Leaves.panic (Or.inl ⟨by rfl, ?_⟩) (fun K hK => ?_)
            rotate_left 1
            · (intro w; go_simp; try with_reducible rfl)
            go_simp
            refine hK _ _ ?_
            clear hK K
            refine wpAny_ready (rs := [5, 9]) (by kernel_rfl) (by simp) ?_
            refine AllReady.cons rfl (fun K hK => ?_) ?_
            · go_simp
              refine hK _ _ ?_
              clear hK K
              refine take_k (i := 6) (v := ?_) rfl (by kernel_rfl) (by kernel_rfl) (by kernel_rfl) Leaves.panic (Or.inl ⟨by rfl, ?_⟩) (fun K hK => ?_)
              rotate_left 1
              · (intro w; go_simp; try with_reducible rfl)
              go_simp
              refine hK _ _ ?_
              clear hK K
              refine wpAny_ready (rs := [9]) (by kernel_rfl) (by simp) ?_
              refine AllReady.cons rfl (fun K hK => ?_) ?_
              · go_simp
                refine hK _ _ ?_
                clear hK K
                refine take_k (i := 10) (v := ?_) rfl (by kernel_rfl) (by kernel_rfl) (by kernel_rfl) Leaves.panic (Or.inl ⟨by rfl, ?_⟩) (fun K hK => ?_)
                rotate_left 1
                · (intro w; go_simp; try with_reducible rfl)
                go_simp
                refine hK _ _ ?_
                clear hK K
                refine wpAny_ready (rs := [11]) (by kernel_rfl) (by simp) ?_
                refine AllReady.cons rfl (fun K hK => ?_) ?_
                · go_simp
                  refine hK _ _ ?_
                  clear hK K
                  refine wpAny_ready (rs := [12]) (by kernel_rfl) (by simp) ?_
                  refine AllReady.cons rfl (fun K hK => ?_) ?_
                  · go_simp
                    refine (text_calls (uw pn) pbb (uw_lt pn) _).mono ?_
                    rintro e w4 ⟨rfl, h4⟩
                    have HG4 := Lib.hid (undrawn h4)
                    clear h4
                    try go_simp
                    refine hK _ _ ?_
                    clear hK K
                    refine take_k (i := 13) (v := ?_) rfl (by kernel_rfl) (by kernel_rfl) (by kernel_rfl) Leaves.panic (Or.inl ⟨by rfl, ?_⟩) (fun K hK => ?_)
                    rotate_left 1
                    · (intro w; go_simp; try with_reducible rfl)
                    go_simp
                    refine hK _ _ ?_
                    clear hK K
                    refine take_k (i := 14) (v := ?_) rfl (by kernel_rfl) (by kernel_rfl) (by kernel_rfl) Leaves.panic (Or.inl ⟨by rfl, ?_⟩) (fun K hK => ?_)
                    rotate_left 1
                    · (intro w; go_simp; try with_reducible rfl)
                    go_simp
                    refine hK _ _ ?_
                    clear hK K
                    refine wpAny_done (by kernel_rfl) ?_ _
                    refine ⟨rfl, ?_, HG4⟩
                    simp only [puts]
                    go_simp
                  exact AllReady.nil
                exact AllReady.nil
              exact AllReady.nil
            refine AllReady.cons rfl (fun K hK => ?_) ?_
            · go_simp
              refine hK _ _ ?_
              clear hK K
              refine take_k (i := 10) (v := ?_) rfl (by kernel_rfl) (by kernel_rfl) (by kernel_rfl) Leaves.panic (Or.inl ⟨by rfl, ?_⟩) (fun K hK => ?_)
              rotate_left 1
              · (intro w; go_simp; try with_reducible rfl)
              go_simp
              refine hK _ _ ?_
              clear hK K
              refine wpAny_ready (rs := [5, 11]) (by kernel_rfl) (by simp) ?_
              refine AllReady.cons rfl (fun K hK => ?_) ?_
              · go_simp
                refine hK _ _ ?_
                clear hK K
                refine take_k (i := 6) (v := ?_) rfl (by kernel_rfl) (by kernel_rfl) (by kernel_rfl) Leaves.panic (Or.inl ⟨by rfl, ?_⟩) (fun K hK => ?_)
                rotate_left 1
                · (intro w; go_simp; try with_reducible rfl)
                go_simp
                refine hK _ _ ?_
                clear hK K
                refine wpAny_ready (rs := [11]) (by kernel_rfl) (by simp) ?_
                refine AllReady.cons rfl (fun K hK => ?_) ?_
                · go_simp
                  refine hK _ _ ?_
                  clear hK K
                  refine wpAny_ready (rs := [12]) (by kernel_rfl) (by simp) ?_
                  refine AllReady.cons rfl (fun K hK => ?_) ?_
                  · go_simp
                    refine (text_calls (uw pn) pbb (uw_lt pn) _).mono ?_
                    rintro e w4 ⟨rfl, h4⟩
                    have HG4 := Lib.hid (undrawn h4)
                    clear h4
                    try go_simp
                    refine hK _ _ ?_
                    clear hK K
                    refine take_k (i := 13) (v := ?_) rfl (by kernel_rfl) (by kernel_rfl) (by kernel_rfl) Leaves.panic (Or.inl ⟨by rfl, ?_⟩) (fun K hK => ?_)
                    rotate_left 1
                    · (intro w; go_simp; try with_reducible rfl)
                    go_simp
                    refine hK _ _ ?_
                    clear hK K
                    refine take_k (i := 14) (v := ?_) rfl (by kernel_rfl) (by kernel_rfl) (by kernel_rfl) Leaves.panic (Or.inl ⟨by rfl, ?_⟩) (fun K hK => ?_)
                    rotate_left 1
                    · (intro w; go_simp; try with_reducible rfl)
                    go_simp
                    refine hK _ _ ?_
                    clear hK K
                    refine wpAny_done (by kernel_rfl) ?_ _
                    refine ⟨rfl, ?_, HG4⟩
                    simp only [puts]
                    go_simp
                  exact AllReady.nil
                exact AllReady.nil
              refine AllReady.cons rfl (fun K hK => ?_) ?_
              · go_simp
                refine hK _ _ ?_
                clear hK K
                refine wpAny_ready (rs := [5]) (by kernel_rfl) (by simp) ?_
                refine AllReady.cons rfl (fun K hK => ?_) ?_
                · go_simp
                  refine hK _ _ ?_
                  clear hK K
                  refine take_k (i := 6) (v := ?_) rfl (by kernel_rfl) (by kernel_rfl) (by kernel_rfl) Leaves.panic (Or.inl ⟨by rfl, ?_⟩) (fun K hK => ?_)
                  rotate_left 1
                  · (intro w; go_simp; try with_reducible rfl)
                  go_simp
                  refine hK _ _ ?_
                  clear hK K
                  refine wpAny_ready (rs := [12]) (by kernel_rfl) (by simp) ?_
                  refine AllReady.cons rfl (fun K hK => ?_) ?_
                  · go_simp
                    refine (text_calls (uw pn) pbb (uw_lt pn) _).mono ?_
                    rintro e w4 ⟨rfl, h4⟩
                    have HG4 := Lib.hid (undrawn h4)
                    clear h4
                    try go_simp
                    refine hK _ _ ?_
                    clear hK K
                    refine take_k (i := 13) (v := ?_) rfl (by kernel_rfl) (by kernel_rfl) (by kernel_rfl) Leaves.panic (Or.inl ⟨by rfl, ?_⟩) (fun K hK => ?_)
                    rotate_left 1
                    · (intro w; go_simp; try with_reducible rfl)
                    go_simp
                    refine hK _ _ ?_
                    clear hK K
                    refine take_k (i := 14) (v := ?_) rfl (by kernel_rfl) (by kernel_rfl) (by kernel_rfl) Leaves.panic (Or.inl ⟨by rfl, ?_⟩) (fun K hK => ?_)
                    rotate_left 1
                    · (intro w; go_simp; try with_reducible rfl)
                    go_simp
                    refine hK _ _ ?_
                    clear hK K
                    refine wpAny_done (by kernel_rfl) ?_ _
                    refine ⟨rfl, ?_, HG4⟩
                    simp only [puts]
                    go_simp
                  exact AllReady.nil
                exact AllReady.nil
              exact AllReady.nil
            exact AllReady.nil
          refine AllReady.cons rfl (fun K hK => ?_) ?_
          · go_simp
            refine hK _ _ ?_
            clear hK K
            refine take_k (i := 10) (v := ?_) rfl (by kernel_rfl) (by kernel_rfl) (by kernel_rfl) Leaves.panic (Or.inl ⟨by rfl, ?_⟩) (fun K hK => ?_)
            rotate_left 1
            · (intro w; go_simp; try with_reducible rfl)
            go_simp
            refine hK _ _ ?_
            clear hK K
            refine wpAny_ready (rs := [3, 11]) (by kernel_rfl) (by simp) ?_
            refine AllReady.cons rfl (fun K hK => ?_) ?_
            · go_simp
              refine hK _ _ ?_
              clear hK K
              refine take_k (i := 4) (v := ?_) rfl (by kernel_rfl) (by kernel_rfl) (by kernel_rfl) Leaves.panic (Or.inl ⟨by rfl, ?_⟩) (fun K hK => ?_)
              rotate_left 1
              · (intro w; go_simp; try with_reducible rfl)
              go_simp
              refine hK _ _ ?_
              clear hK K
              refine wpAny_ready (rs := [5, 11]) (by kernel_rfl) (by simp) ?_
              refine AllReady.cons rfl (fun K hK => ?_) ?_
              · go_simp
                refine hK _ _ ?_
                clear hK K
                refine take_k (i := 6) (v := ?_) rfl (by kernel_rfl) (by kernel_rfl) (by kernel_rfl) Leaves.panic (Or.inl ⟨by rfl, ?_⟩) (fun K hK => ?_)
                rotate_left 1
                · (intro w; go_simp; try with_reducible rfl)
                go_simp
                refine hK _ _ ?_
                clear hK K
                refine wpAny_ready (rs := [11]) (by kernel_rfl) (by simp) ?_
                refine AllReady.cons rfl (fun K hK => ?_) ?_
                · go_simp
                  refine hK _ _ ?_
                  clear hK K
                  refine wpAny_ready (rs := [12]) (by kernel_rfl) (by simp) ?_
                  refine AllReady.cons rfl (fun K hK => ?_) ?_
                  · go_simp
                    refine (text_calls (uw pn) pbb (uw_lt pn) _).mono ?_
                    rintro e w4 ⟨rfl, h4⟩
                    have HG4 := Lib.hid (undrawn h4)
                    clear h4
                    try go_simp
                    refine hK _ _ ?_
                    clear hK K
                    refine take_k (i := 13) (v := ?_) rfl (by kernel_rfl) (by kernel_rfl) (by kernel_rfl) Leaves.panic (Or.inl ⟨by rfl, ?_⟩) (fun K hK => ?_)
                    rotate_left 1
                    · (intro w; go_simp; try with_reducible rfl)
                    go_simp
                    refine hK _ _ ?_
                    clear hK K
                    refine take_k (i := 14) (v := ?_) rfl (by kernel_rfl) (by kernel_rfl) (by kernel_rfl) Leaves.panic (Or.inl ⟨by rfl, ?_⟩) (fun K hK => ?_)
                    rotate_left 1
                    · (intro w; go_simp; try with_reducible rfl)
                    go_simp
                    refine hK _ _ ?_
                    clear hK K
                    refine wpAny_done (by kernel_rfl) ?_ _
                    refine ⟨rfl, ?_, HG4⟩
                    simp only [puts]
                    go_simp
                  exact AllReady.nil
                exact AllReady.nil
              refine AllReady.cons rfl (fun K hK => ?_) ?_
              · go_simp
                refine hK _ _ ?_
                clear hK K
                refine wpAny_ready (rs := [5]) (by kernel_rfl) (by simp) ?_
                refine AllReady.cons rfl (fun K hK => ?_) ?_
                · go_simp
                  refine hK _ _ ?_
                  clear hK K
                  refine take_k (i := 6) (v := ?_) rfl (by kernel_rfl) (by kernel_rfl) (by kernel_rfl) Leaves.panic (Or.inl ⟨by rfl, ?_⟩) (fun K hK => ?_)
                  rotate_left 1
                  · (intro w; go_simp; try with_reducible rfl)
                  go_simp
                  refine hK _ _ ?_
                  clear hK K
                  refine wpAny_ready (rs := [12]) (by kernel_rfl) (by simp) ?_
                  refine AllReady.cons rfl (fun K hK => ?_) ?_
                  · go_simp
                    refine (text_calls (uw pn) pbb (uw_lt pn) _).mono ?_
                    rintro e w4 ⟨rfl, h4⟩
                    have HG4 := Lib.hid (undrawn h4)
                    clear h4
                    try go_simp
                    refine hK _ _ ?_
                    clear hK K
                    refine take_k (i := 13) (v := ?_) rfl (by kernel_rfl) (by kernel_rfl) (by kernel_rfl) Leaves.panic (Or.inl ⟨by rfl, ?_⟩) (fun K hK => ?_)
                    rotate_left 1
                    · (intro w; go_simp; try with_reducible rfl)
                    go_simp
                    refine hK _ _ ?_
                    clear hK K
                    refine take_k (i := 14) (v := ?_) rfl (by kernel_rfl) (by kernel_rfl) (by kernel_rfl) Leaves.panic (Or.inl ⟨by rfl, ?_⟩) (fun K hK => ?_)
                    rotate_left 1
                    · (intro w; go_simp; try with_reducible rfl)
                    go_simp
                    refine hK _ _ ?_
                    clear hK K
                    refine wpAny_done (by kernel_rfl) ?_ _
                    refine ⟨rfl, ?_, HG4⟩
                    simp only [puts]
                    go_simp
                  exact AllReady.nil
                exact AllReady.nil
              exact AllReady.nil
            refine AllReady.cons rfl (fun K hK => ?_) ?_
            · go_simp
              refine hK _ _ ?_
              clear hK K
              refine wpAny_ready (rs := [3]) (by kernel_rfl) (by simp) ?_
              refine AllReady.cons rfl (fun K hK => ?_) ?_
              · go_simp
                refine hK _ _ ?_
                clear hK K
                refine take_k (i := 4) (v := ?_) rfl (by kernel_rfl) (by kernel_rfl) (by kernel_rfl) Leaves.panic (Or.inl ⟨by rfl, ?_⟩) (fun K hK => ?_)
                rotate_left 1
                · (intro w; go_simp; try with_reducible rfl)
                go_simp
                refine hK _ _ ?_
                clear hK K
                refine wpAny_ready (rs := [5]) (by kernel_rfl) (by simp) ?_
                refine AllReady.cons rfl (fun K hK => ?_) ?_
                · go_simp
                  refine hK _ _ ?_
                  clear hK K
                  refine take_k (i := 6) (v := ?_) rfl (by kernel_rfl) (by kernel_rfl) (by kernel_rfl) Leaves.panic (Or.inl ⟨by rfl, ?_⟩) (fun K hK => ?_)
                  rotate_left 1
                  · (intro w; go_simp; try with_reducible rfl)
                  go_simp
                  refine hK _ _ ?_
                  clear hK K
                  refine wpAny_ready (rs := [12]) (by kernel_rfl) (by simp) ?_
                  refine AllReady.cons rfl (fun K hK => ?_) ?_
                  · go_simp
                    refine (text_calls (uw pn) pbb (uw_lt pn) _).mono ?_
                    rintro e w4 ⟨rfl, h4⟩
                    have HG4 := Lib.hid (undrawn h4)
                    clear h4
                    try go_simp
                    refine hK _ _ ?_
                    clear hK K
                    refine take_k (i := 13) (v := ?_) rfl (by kernel_rfl) (by kernel_rfl) (by kernel_rfl) Leaves.panic (Or.inl ⟨by rfl, ?_⟩) (fun K hK => ?_)
                    rotate_left 1
                    · (intro w; go_simp; try with_reducible rfl)
                    go_simp
                    refine hK _ _ ?_
                    clear hK K
                    refine take_k (i := 14) (v := ?_) rfl (by kernel_rfl) (by kernel_rfl) (by kernel_rfl) Leaves.panic (Or.inl ⟨by rfl, ?_⟩) (fun K hK => ?_)
                    rotate_left 1
                    · (intro w; go_simp; try with_reducible rfl)
                    go_simp
                    refine hK _ _ ?_
                    clear hK K
                    refine wpAny_done (by kernel_rfl) ?_ _
                    refine ⟨rfl, ?_, HG4⟩
                    simp only [puts]
                    go_simp
                  exact AllReady.nil
                exact AllReady.nil
              exact AllReady.nil
            exact AllReady.nil
          exact AllReady.nil
        intro w4 HG4
        simp only [puts]
        go_simp
        go_wp2_with fail
        go_roundw
        case rel => exact ⟨k + 1, S2, by omega, by omega, rfl, by go_num, HS2, Lib.hid (HW3.out.grown HG4.out)⟩
        case measure => simp [iv]; omega
      · go_wp2_with fail
        refine region_post [(24, .pointer (some ⟨gw, 0, none⟩)), (25, .slice (some ⟨b, off, none⟩) n cap), (26, .int .i64 k), (27, .pointer (some ⟨b, off + k * 3, none⟩)), (28, .pointer (some ⟨b, off + k * 3, none⟩)), (29, .int .i64 pn), (30, .slice (some ⟨b, off, none⟩) n cap), (31, .int .i64 k), (32, .pointer (some ⟨b, off + k * 3, none⟩)), (33, .pointer (some ⟨b, off + k * 3 + 1, none⟩)), (34, .int .i64 pbb), (35, .tuple #[])] (fun w' => Hid (OwnW w w' gw (pbs (l.take (k + 1))))) (by kernel_rfl) ?_ ?_
        · try (change wpAny _ _ _ _ _ _ _ (World.drew _))
          refine take_k (i := 0) (v := ?_) rfl (by kernel_rfl) (by kernel_rfl) (by kernel_rfl) Leaves.panic (Or.inl ⟨by rfl, ?_⟩) (fun K hK => ?_)
          rotate_left 1
          · (intro w; go_simp; try with_reducible rfl)
          go_simp
          refine hK _ _ ?_
          clear hK K
          refine take_k (i := 1) (v := ?_) rfl (by kernel_rfl) (by kernel_rfl) (by kernel_rfl) Leaves.panic (Or.inl ⟨by rfl, ?_⟩) (fun K hK => ?_)
          rotate_left 1
          · (intro w; go_simp; try with_reducible rfl)
          go_simp
          refine hK _ _ ?_
          clear hK K
          refine take_k (i := 2) (v := ?_) rfl (by kernel_rfl) (by kernel_rfl) (by kernel_rfl) Leaves.panic (Or.inl ⟨by rfl, ?_⟩) (fun K hK => ?_)
          rotate_left 1
          · (intro w; go_simp; try with_reducible rfl)
          go_simp
          refine hK _ _ ?_
          clear hK K
          refine take_k (i := 6) (v := ?_) rfl (by kernel_rfl) (by kernel_rfl) (by kernel_rfl) Leaves.panic (Or.inl ⟨by rfl, ?_⟩) (fun K hK => ?_)
          rotate_left 1
          · (intro w; go_simp; try with_reducible rfl)
          go_simp
          refine hK _ _ ?_
          clear hK K
          refine take_k (i := 7) (v := ?_) rfl (by kernel_rfl) (by kernel_rfl) (by kernel_rfl) Leaves.panic (Or.inl ⟨by rfl, ?_⟩) (fun K hK => ?_)
          rotate_left 1
          · (intro w; go_simp; try with_reducible rfl)
          go_simp
          refine hK _ _ ?_
          clear hK K
          refine wpAny_ready (rs := [3, 8]) (by kernel_rfl) (by simp) ?_
          refine AllReady.cons rfl (fun K hK => ?_) ?_
          · go_simp
            refine hK _ _ ?_
            clear hK K
            refine take_k (i := 4) (v := ?_) rfl (by kernel_rfl) (by kernel_rfl) (by kernel_rfl) Leaves.panic (Or.inl ⟨by rfl, ?_⟩) (fun K hK => ?_)
            rotate_left 1
            · (intro w; go_simp; try with_reducible rfl)
            go_simp
            refine hK _ _ ?_
            clear hK K
            refine wpAny_ready (rs := [5, 8]) (by kernel_rfl) (by simp) ?_
            refine AllReady.cons rfl (fun K hK => ?_) ?_
            · go_simp
              refine hK _ _ ?_
              clear hK K
              refine wpAny_ready (rs := [8]) (by kernel_rfl) (by simp) ?_
              refine AllReady.cons rfl (fun K hK => ?_) ?_
              · go_simp
                refine hK _ _ ?_
                clear hK K
                refine take_k (i := 9) (v := ?_) rfl (by kernel_rfl) (by kernel_rfl) (by kernel_rfl) Leaves.panic (Or.inl ⟨by rfl, ?_⟩) (fun K hK => ?_)
                rotate_left 1
                · (intro w; go_simp; try with_reducible rfl)
                go_simp
                refine hK _ _ ?_
                clear hK K
                refine wpAny_ready (rs := [10]) (by kernel_rfl) (by simp) ?_
                refine AllReady.cons rfl (fun K hK => ?_) ?_
                · go_simp
                  refine hK _ _ ?_
                  clear hK K
                  refine wpAny_ready (rs := [11]) (by kernel_rfl) (by simp) ?_
                  refine AllReady.cons rfl (fun K hK => ?_) ?_
                  · go_simp
                    refine (signW_calls gw pn pbb _ HPL.out _ _ (HWR.out.grown (only_drawn (World.grownBy.refl wr none) 1))).mono ?_
                    rintro e w3 ⟨rfl, v3, hw3, _, hf3⟩
                    have HW3 : Hid (OwnW w w3 gw (pbs (l.take (k + 1)))) := Lib.hid (by rw [pbs_take l k _ HX.out, HPB.out]; exact OwnW.put (only_drawn HG.out 1) H0.out (HWR.out.grown (only_drawn (World.grownBy.refl wr none) 1)) hf3 hw3)
                    clear hw3 hf3
                    try go_simp
                    refine hK _ _ ?_
                    clear hK K
                    refine wpAny_done (by kernel_rfl) ?_ _
                    refine ⟨rfl, ?_, HW3⟩
                    simp only [puts]
                    go_simp
                  exact AllReady.nil
                exact AllReady.nil
              exact AllReady.nil
            refine AllReady.cons rfl (fun K hK => ?_) ?_
            · go_simp
              refine hK _ _ ?_
              clear hK K
              refine take_k (i := 9) (v := ?_) rfl (by kernel_rfl) (by kernel_rfl) (by kernel_rfl) Leaves.panic (Or.inl ⟨by rfl, ?_⟩) (fun K hK => ?_)
              rotate_left 1
              · (intro w; go_simp; try with_reducible rfl)
              go_simp
              refine hK _ _ ?_
              clear hK K
              refine wpAny_ready (rs := [5, 10]) (by kernel_rfl) (by simp) ?_
              refine AllReady.cons rfl (fun K hK => ?_) ?_
              · go_simp
                refine hK _ _ ?_
                clear hK K
                refine wpAny_ready (rs := [10]) (by kernel_rfl) (by simp) ?_
                refine AllReady.cons rfl (fun K hK => ?_) ?_
                · go_simp
                  refine hK _ _ ?_
                  clear hK K
                  refine wpAny_ready (rs := [11]) (by kernel_rfl) (by simp) ?_
                  refine AllReady.cons rfl (fun K hK => ?_) ?_
                  · go_simp
                    refine (signW_calls gw pn pbb _ HPL.out _ _ (HWR.out.grown (only_drawn (World.grownBy.refl wr none) 1))).mono ?_
                    rintro e w3 ⟨rfl, v3, hw3, _, hf3⟩
                    have HW3 : Hid (OwnW w w3 gw (pbs (l.take (k + 1)))) := Lib.hid (by rw [pbs_take l k _ HX.out, HPB.out]; exact OwnW.put (only_drawn HG.out 1) H0.out (HWR.out.grown (only_drawn (World.grownBy.refl wr none) 1)) hf3 hw3)
                    clear hw3 hf3
                    try go_simp
                    refine hK _ _ ?_
                    clear hK K
                    refine wpAny_done (by kernel_rfl) ?_ _
                    refine ⟨rfl, ?_, HW3⟩
                    simp only [puts]
                    go_simp
                  exact AllReady.nil
                exact AllReady.nil
              refine AllReady.cons rfl (fun K hK => ?_) ?_
              · go_simp
                refine hK _ _ ?_
                clear hK K
                refine wpAny_ready (rs := [5]) (by kernel_rfl) (by simp) ?_
                refine AllReady.cons rfl (fun K hK => ?_) ?_
                · go_simp
                  refine hK _ _ ?_
                  clear hK K
                  refine wpAny_ready (rs := [11]) (by kernel_rfl) (by simp) ?_
                  refine AllReady.cons rfl (fun K hK => ?_) ?_
                  · go_simp
                    refine (signW_calls gw pn pbb _ HPL.out _ _ (HWR.out.grown (only_drawn (World.grownBy.refl wr none) 1))).mono ?_
                    rintro e w3 ⟨rfl, v3, hw3, _, hf3⟩
                    have HW3 : Hid (OwnW w w3 gw (pbs (l.take (k + 1)))) := Lib.hid (by rw [pbs_take l k _ HX.out, HPB.out]; exact OwnW.put (only_drawn HG.out 1) H0.out (HWR.out.grown (only_drawn (World.grownBy.refl wr none) 1)) hf3 hw3)
                    clear hw3 hf3
                    try go_simp
                    refine hK _ _ ?_
                    clear hK K
                    refine wpAny_done (by kernel_rfl) ?_ _
                    refine ⟨rfl, ?_, HW3⟩
                    simp only [puts]
                    go_simp
                  exact AllReady.nil
                exact AllReady.nil
              exact AllReady.nil
            exact AllReady.nil
          refine AllReady.cons rfl (fun K hK => ?_) ?_
          · go_simp
            refine hK _ _ ?_
            clear hK K
            refine take_k (i := 9) (v := ?_) rfl (by kernel_rfl) (by kernel_rfl) (by kernel_rfl) Leaves.panic (Or.inl ⟨by rfl, ?_⟩) (fun K hK => ?_)
            rotate_left 1
            · (intro w; go_simp; try with_reducible rfl)
            go_simp
            refine hK _ _ ?_
            clear hK K
            refine wpAny_ready (rs := [3, 10]) (by kernel_rfl) (by simp) ?_
            refine AllReady.cons rfl (fun K hK => ?_) ?_
            · go_simp
              refine hK _ _ ?_
              clear hK K
              refine take_k (i := 4) (v := ?_) rfl (by kernel_rfl) (by kernel_rfl) (by kernel_rfl) Leaves.panic (Or.inl ⟨by rfl, ?_⟩) (fun K hK => ?_)
              rotate_left 1
              · (intro w; go_simp; try with_reducible rfl)
              go_simp
              refine hK _ _ ?_
              clear hK K
              refine wpAny_ready (rs := [5, 10]) (by kernel_rfl) (by simp) ?_
              refine AllReady.cons rfl (fun K hK => ?_) ?_
              · go_simp
                refine hK _ _ ?_
                clear hK K
                refine wpAny_ready (rs := [10]) (by kernel_rfl) (by simp) ?_
                refine AllReady.cons rfl (fun K hK => ?_) ?_
                · go_simp
                  refine hK _ _ ?_
                  clear hK K
                  refine wpAny_ready (rs := [11]) (by kernel_rfl) (by simp) ?_
                  refine AllReady.cons rfl (fun K hK => ?_) ?_
                  · go_simp
                    refine (signW_calls gw pn pbb _ HPL.out _ _ (HWR.out.grown (only_drawn (World.grownBy.refl wr none) 1))).mono ?_
                    rintro e w3 ⟨rfl, v3, hw3, _, hf3⟩
                    have HW3 : Hid (OwnW w w3 gw (pbs (l.take (k + 1)))) := Lib.hid (by rw [pbs_take l k _ HX.out, HPB.out]; exact OwnW.put (only_drawn HG.out 1) H0.out (HWR.out.grown (only_drawn (World.grownBy.refl wr none) 1)) hf3 hw3)
                    clear hw3 hf3
                    try go_simp
                    refine hK _ _ ?_
                    clear hK K
                    refine wpAny_done (by kernel_rfl) ?_ _
                    refine ⟨rfl, ?_, HW3⟩
                    simp only [puts]
                    go_simp
                  exact AllReady.nil
                exact AllReady.nil
              refine AllReady.cons rfl (fun K hK => ?_) ?_
              · go_simp
                refine hK _ _ ?_
                clear hK K
                refine wpAny_ready (rs := [5]) (by kernel_rfl) (by simp) ?_
                refine AllReady.cons rfl (fun K hK => ?_) ?_
                · go_simp
                  refine hK _ _ ?_
                  clear hK K
                  refine wpAny_ready (rs := [11]) (by kernel_rfl) (by simp) ?_
                  refine AllReady.cons rfl (fun K hK => ?_) ?_
                  · go_simp
                    refine (signW_calls gw pn pbb _ HPL.out _ _ (HWR.out.grown (only_drawn (World.grownBy.refl wr none) 1))).mono ?_
                    rintro e w3 ⟨rfl, v3, hw3, _, hf3⟩
                    have HW3 : Hid (OwnW w w3 gw (pbs (l.take (k + 1)))) := Lib.hid (by rw [pbs_take l k _ HX.out, HPB.out]; exact OwnW.put (only_drawn HG.out 1) H0.out (HWR.out.grown (only_drawn (World.grownBy.refl wr none) 1)) hf3 hw3)
                    clear hw3 hf3
                    try go_simp
                    refine hK _ _ ?_
                    clear hK K
                    refine wpAny_done (by kernel_rfl) ?_ _
                    refine ⟨rfl, ?_, HW3⟩
                    simp only [puts]
                    go_simp
                  exact AllReady.nil
                exact AllReady.nil
              exact AllReady.nil
            refine AllReady.cons rfl (fun K hK => ?_) ?_
            · go_simp
              refine hK _ _ ?_
              clear hK K
              refine wpAny_ready (rs := [3]) (by kernel_rfl) (by simp) ?_
              refine AllReady.cons rfl (fun K hK => ?_) ?_
              · go_simp
                refine hK _ _ ?_
                clear hK K
                refine take_k (i := 4) (v := ?_) rfl (by kernel_rfl) (by kernel_rfl) (by kernel_rfl) Leaves.panic (Or.inl ⟨by rfl, ?_⟩) (fun K hK => ?_)
                rotate_left 1
                · (intro w; go_simp; try with_reducible rfl)
                go_simp
                refine hK _ _ ?_
                clear hK K
                refine wpAny_ready (rs := [5]) (by kernel_rfl) (by simp) ?_
                refine AllReady.cons rfl (fun K hK => ?_) ?_
                · go_simp
                  refine hK _ _ ?_
                  clear hK K
                  refine wpAny_ready (rs := [11]) (by kernel_rfl) (by simp) ?_
                  refine AllReady.cons rfl (fun K hK => ?_) ?_
                  · go_simp
                    refine (signW_calls gw pn pbb _ HPL.out _ _ (HWR.out.grown (only_drawn (World.grownBy.refl wr none) 1))).mono ?_
                    rintro e w3 ⟨rfl, v3, hw3, _, hf3⟩
                    have HW3 : Hid (OwnW w w3 gw (pbs (l.take (k + 1)))) := Lib.hid (by rw [pbs_take l k _ HX.out, HPB.out]; exact OwnW.put (only_drawn HG.out 1) H0.out (HWR.out.grown (only_drawn (World.grownBy.refl wr none) 1)) hf3 hw3)
                    clear hw3 hf3
                    try go_simp
                    refine hK _ _ ?_
                    clear hK K
                    refine wpAny_done (by kernel_rfl) ?_ _
                    refine ⟨rfl, ?_, HW3⟩
                    simp only [puts]
                    go_simp
                  exact AllReady.nil
                exact AllReady.nil
              exact AllReady.nil
            exact AllReady.nil
          exact AllReady.nil
        intro w3 HW3
        simp only [puts]
        go_simp
        obtain ⟨hg3, _⟩ := HW3.out
        have HG3 := Lib.hid hg3
        obtain ⟨c0, c1, c2⟩ := pt_cells (w := w3) (b := b) (o := off + k * 3) (p := ⟨pn, pbb, true⟩) (fun j u hu => HG3.out.cell (HCC.out j u hu) (by simp))
        clear hg3
        go_wp2_with fail
        refine region_post [(49, .string S), (50, .slice (some ⟨b, off, none⟩) n cap), (51, .int .i64 k), (52, .pointer (some ⟨b, off + k * 3, none⟩)), (53, .pointer (some ⟨b, off + k * 3, none⟩)), (54, .int .i64 pn), (55, .int .u64 (uw pn : Nat)), (56, .slice (some ⟨b, off, none⟩) n cap), (57, .int .i64 k), (58, .pointer (some ⟨b, off + k * 3, none⟩)), (59, .pointer (some ⟨b, off + k * 3 + 1, none⟩)), (60, .int .i64 pbb), (61, .string (tx (hb (uw pn) (inn pbb)))), (62, .string S2), (5, .string S2)] (fun w' => Hid (w3.grownBy w' none)) (by kernel_rfl) ?_ ?_
        · try (change wpAny _ _ _ _ _ _ _ (World.drew _))
          refine take_k (i := 0) (v := ?_) rfl (by kernel_rfl) (by kernel_rfl) (by kernel_rfl) Leaves.panic (Or.inl ⟨by rfl, ?_⟩) (fun K hK => ?_)
          rotate_left 1
          · (intro w; go_simp; try with_reducible rfl)
          go_simp
          refine hK _ _ ?_
          clear hK K
          refine take_k (i := 1) (v := ?_) rfl (by kernel_rfl) (by kernel_rfl) (by kernel_rfl) Leaves.panic (Or.inl ⟨by rfl, ?_⟩) (fun K hK => ?_)
          rotate_left 1
          · (intro w; go_simp; try with_reducible rfl)
          go_simp
          refine hK _ _ ?_
          clear hK K
          refine take_k (i := 2) (v := ?_) rfl (by kernel_rfl) (by kernel_rfl) (by kernel_rfl) Leaves.panic (Or.inl ⟨by rfl, ?_⟩) (fun K hK => ?_)
          rotate_left 1
          · (intro w; go_simp; try with_reducible rfl)
          go_simp
          refine hK _ _ ?_
          clear hK K
          refine take_k (i := 7) (v := ?_) rfl (by kernel_rfl) (by kernel_rfl) (by kernel_rfl) Leaves.panic (Or.inl ⟨by rfl, ?_⟩) (fun K hK => ?_)
          rotate_left 1
          · (intro w; go_simp; try with_reducible rfl)
          go_simp
          refine hK _ _ ?_
          clear hK K
          refine take_k (i := 8) (v := ?_) rfl (by kernel_rfl) (by kernel_rfl) (by kernel_rfl) Leaves.panic (Or.inl ⟨by rfl, ?_⟩) (fun K hK => ?_)
          rotate_left 1
          · (intro w; go_simp; try with_reducible rfl)
          go_simp
          refine hK _ _ ?_
          clear hK K
          refine wpAny_ready (rs := [3, 9]) (by kernel_rfl) (by simp) ?_
          refine AllReady.cons rfl (fun K hK => ?_) ?_
          · go_simp
            refine hK _ _ ?_
            clear hK K
            refine take_k (i := 4) (v := ?_) rfl (by kernel_rfl) (by kernel_rfl) (by kernel_rfl) Leaves.panic (Or.inl ⟨by rfl, ?_⟩) (fun K hK => ?_)
            rotate_left 1
            · (intro w; go_simp; try with_reducible rfl)
            go_simp
            refine hK _ _ ?_
            clear hK K
            refine wpAny_ready (rs := [5, 9]) (by kernel_rfl) (by simp) ?_
            refine AllReady.cons rfl (fun K hK => ?_) ?_
            · go_simp
              refine hK _ _ ?_
              clear hK K
              refine take_k (i := 6) (v := ?_) rfl (by kernel_rfl) (by kernel_rfl) (by kernel_rfl) Leaves.panic (Or.inl ⟨by rfl, ?_⟩) (fun K hK => ?_)
              rotate_left 1
              · (intro w; go_simp; try with_reducible rfl)
              go_simp
              refine hK _ _ ?_
              clear hK K
              refine wpAny_ready (rs := [9]) (by kernel_rfl) (by simp) ?_
              refine AllReady.cons rfl (fun K hK => ?_) ?_
              · go_simp
                refine hK _ _ ?_
                clear hK K
                refine take_k (i := 10) (v := ?_) rfl (by kernel_rfl) (by kernel_rfl) (by kernel_rfl) Leaves.panic (Or.inl ⟨by rfl, ?_⟩) (fun K hK => ?_)
                rotate_left 1
                · (intro w; go_simp; try with_reducible rfl)
                go_simp
                refine hK _ _ ?_
                clear hK K
                refine wpAny_ready (rs := [11]) (by kernel_rfl) (by simp) ?_
                refine AllReady.cons rfl (fun K hK => ?_) ?_
                · go_simp
                  refine hK _ _ ?_
                  clear hK K
                  refine wpAny_ready (rs := [12]) (by kernel_rfl) (by simp) ?_
                  refine AllReady.cons rfl (fun K hK => ?_) ?_
                  · go_simp
                    refine (text_calls (uw pn) pbb (uw_lt pn) _).mono ?_
                    rintro e w4 ⟨rfl, h4⟩
                    have HG4 := Lib.hid (undrawn h4)
                    clear h4
                    try go_simp
                    refine hK _ _ ?_
                    clear hK K
                    refine take_k (i := 13) (v := ?_) rfl (by kernel_rfl) (by kernel_rfl) (by kernel_rfl) Leaves.panic (Or.inl ⟨by rfl, ?_⟩) (fun K hK => ?_)
                    rotate_left 1
                    · (intro w; go_simp; try with_reducible rfl)
                    go_simp
                    refine hK _ _ ?_
                    clear hK K
                    refine take_k (i := 14) (v := ?_) rfl (by kernel_rfl) (by kernel_rfl) (by kernel_rfl) Leaves.panic (Or.inl ⟨by rfl, ?_⟩) (fun K hK => ?_)
                    rotate_left 1
                    · (intro w; go_simp; try with_reducible rfl)
                    go_simp
                    refine hK _ _ ?_
                    clear hK K
                    refine wpAny_done (by kernel_rfl) ?_ _
                    refine ⟨rfl, ?_, HG4⟩
                    simp only [puts]
                    go_simp
                  exact AllReady.nil
                exact AllReady.nil
              exact AllReady.nil
            refine AllReady.cons rfl (fun K hK => ?_) ?_
            · go_simp
              refine hK _ _ ?_
              clear hK K
              refine take_k (i := 10) (v := ?_) rfl (by kernel_rfl) (by kernel_rfl) (by kernel_rfl) Leaves.panic (Or.inl ⟨by rfl, ?_⟩) (fun K hK => ?_)
              rotate_left 1
              · (intro w; go_simp; try with_reducible rfl)
              go_simp
              refine hK _ _ ?_
              clear hK K
              refine wpAny_ready (rs := [5, 11]) (by kernel_rfl) (by simp) ?_
              refine AllReady.cons rfl (fun K hK => ?_) ?_
              · go_simp
                refine hK _ _ ?_
                clear hK K
                refine take_k (i := 6) (v := ?_) rfl (by kernel_rfl) (by kernel_rfl) (by kernel_rfl) Leaves.panic (Or.inl ⟨by rfl, ?_⟩) (fun K hK => ?_)
                rotate_left 1
                · (intro w; go_simp; try with_reducible rfl)
                go_simp
                refine hK _ _ ?_
                clear hK K
                refine wpAny_ready (rs := [11]) (by kernel_rfl) (by simp) ?_
                refine AllReady.cons rfl (fun K hK => ?_) ?_
                · go_simp
                  refine hK _ _ ?_
                  clear hK K
                  refine wpAny_ready (rs := [12]) (by kernel_rfl) (by simp) ?_
                  refine AllReady.cons rfl (fun K hK => ?_) ?_
                  · go_simp
                    refine (text_calls (uw pn) pbb (uw_lt pn) _).mono ?_
                    rintro e w4 ⟨rfl, h4⟩
                    have HG4 := Lib.hid (undrawn h4)
                    clear h4
                    try go_simp
                    refine hK _ _ ?_
                    clear hK K
                    refine take_k (i := 13) (v := ?_) rfl (by kernel_rfl) (by kernel_rfl) (by kernel_rfl) Leaves.panic (Or.inl ⟨by rfl, ?_⟩) (fun K hK => ?_)
                    rotate_left 1
                    · (intro w; go_simp; try with_reducible rfl)
                    go_simp
                    refine hK _ _ ?_
                    clear hK K
                    refine take_k (i := 14) (v := ?_) rfl (by kernel_rfl) (by kernel_rfl) (by kernel_rfl) Leaves.panic (Or.inl ⟨by rfl, ?_⟩) (fun K hK => ?_)
                    rotate_left 1
                    · (intro w; go_simp; try with_reducible rfl)
                    go_simp
                    refine hK _ _ ?_
                    clear hK K
                    refine wpAny_done (by kernel_rfl) ?_ _
                    refine ⟨rfl, ?_, HG4⟩
                    simp only [puts]
                    go_simp
                  exact AllReady.nil
                exact AllReady.nil
              refine AllReady.cons rfl (fun K hK => ?_) ?_
              · go_simp
                refine hK _ _ ?_
                clear hK K
                refine wpAny_ready (rs := [5]) (by kernel_rfl) (by simp) ?_
                refine AllReady.cons rfl (fun K hK => ?_) ?_
                · go_simp
                  refine hK _ _ ?_
                  clear hK K
                  refine take_k (i := 6) (v := ?_) rfl (by kernel_rfl) (by kernel_rfl) (by kernel_rfl) Leaves.panic (Or.inl ⟨by rfl, ?_⟩) (fun K hK => ?_)
                  rotate_left 1
                  · (intro w; go_simp; try with_reducible rfl)
                  go_simp
                  refine hK _ _ ?_
                  clear hK K
                  refine wpAny_ready (rs := [12]) (by kernel_rfl) (by simp) ?_
                  refine AllReady.cons rfl (fun K hK => ?_) ?_
                  · go_simp
                    refine (text_calls (uw pn) pbb (uw_lt pn) _).mono ?_
                    rintro e w4 ⟨rfl, h4⟩
                    have HG4 := Lib.hid (undrawn h4)
                    clear h4
                    try go_simp
                    refine hK _ _ ?_
                    clear hK K
                    refine take_k (i := 13) (v := ?_) rfl (by kernel_rfl) (by kernel_rfl) (by kernel_rfl) Leaves.panic (Or.inl ⟨by rfl, ?_⟩) (fun K hK => ?_)
                    rotate_left 1
                    · (intro w; go_simp; try with_reducible rfl)
                    go_simp
                    refine hK _ _ ?_
                    clear hK K
                    refine take_k (i := 14) (v := ?_) rfl (by kernel_rfl) (by kernel_rfl) (by kernel_rfl) Leaves.panic (Or.inl ⟨by rfl, ?_⟩) (fun K hK => ?_)
                    rotate_left 1
                    · (intro w; go_simp; try with_reducible rfl)
                    go_simp
                    refine hK _ _ ?_
                    clear hK K
                    refine wpAny_done (by kernel_rfl) ?_ _
                    refine ⟨rfl, ?_, HG4⟩
                    simp only [puts]
                    go_simp
                  exact AllReady.nil
                exact AllReady.nil
              exact AllReady.nil
            exact AllReady.nil
          refine AllReady.cons rfl (fun K hK => ?_) ?_
          · go_simp
            refine hK _ _ ?_
            clear hK K
            refine take_k (i := 10) (v := ?_) rfl (by kernel_rfl) (by kernel_rfl) (by kernel_rfl) Leaves.panic (Or.inl ⟨by rfl, ?_⟩) (fun K hK => ?_)
            rotate_left 1
            · (intro w; go_simp; try with_reducible rfl)
            go_simp
            refine hK _ _ ?_
            clear hK K
            refine wpAny_ready (rs := [3, 11]) (by kernel_rfl) (by simp) ?_
            refine AllReady.cons rfl (fun K hK => ?_) ?_
            · go_simp
              refine hK _ _ ?_
              clear hK K
              refine take_k (i := 4) (v := ?_) rfl (by kernel_rfl) (by kernel_rfl) (by kernel_rfl) Leaves.panic (Or.inl ⟨by rfl, ?_⟩) (fun K hK => ?_)
              rotate_left 1
              · (intro w; go_simp; try with_reducible rfl)
              go_simp
              refine hK _ _ ?_
              clear hK K
              refine wpAny_ready (rs := [5, 11]) (by kernel_rfl) (by simp) ?_
              refine AllReady.cons rfl (fun K hK => ?_) ?_
              · go_simp
                refine hK _ _ ?_
                clear hK K
                refine take_k (i := 6) (v := ?_) rfl (by kernel_rfl) (by kernel_rfl) (by kernel_rfl) Leaves.panic (Or.inl ⟨by rfl, ?_⟩) (fun K hK => ?_)
                rotate_left 1
                · (intro w; go_simp; try with_reducible rfl)
                go_simp
                refine hK _ _ ?_
                clear hK K
                refine wpAny_ready (rs := [11]) (by kernel_rfl) (by simp) ?_
                refine AllReady.cons rfl (fun K hK => ?_) ?_
                · go_simp
                  refine hK _ _ ?_
                  clear hK K
                  refine wpAny_ready (rs := [12]) (by kernel_rfl) (by simp) ?_
                  refine AllReady.cons rfl (fun K hK => ?_) ?_
                  · go_simp
                    refine (text_calls (uw pn) pbb (uw_lt pn) _).mono ?_
                    rintro e w4 ⟨rfl, h4⟩
                    have HG4 := Lib.hid (undrawn h4)
                    clear h4
                    try go_simp
                    refine hK _ _ ?_
                    clear hK K
                    refine take_k (i := 13) (v := ?_) rfl (by kernel_rfl) (by kernel_rfl) (by kernel_rfl) Leaves.panic (Or.inl ⟨by rfl, ?_⟩) (fun K hK => ?_)
                    rotate_left 1
                    · (intro w; go_simp; try with_reducible rfl)
                    go_simp
                    refine hK _ _ ?_
                    clear hK K
                    refine take_k (i := 14) (v := ?_) rfl (by kernel_rfl) (by kernel_rfl) (by kernel_rfl) Leaves.panic (Or.inl ⟨by rfl, ?_⟩) (fun K hK => ?_)
                    rotate_left 1
                    · (intro w; go_simp; try with_reducible rfl)
                    go_simp
                    refine hK _ _ ?_
                    clear hK K
                    refine wpAny_done (by kernel_rfl) ?_ _
                    refine ⟨rfl, ?_, HG4⟩
                    simp only [puts]
                    go_simp
                  exact AllReady.nil
                exact AllReady.nil
              refine AllReady.cons rfl (fun K hK => ?_) ?_
              · go_simp
                refine hK _ _ ?_
                clear hK K
                refine wpAny_ready (rs := [5]) (by kernel_rfl) (by simp) ?_
                refine AllReady.cons rfl (fun K hK => ?_) ?_
                · go_simp
                  refine hK _ _ ?_
                  clear hK K
                  refine take_k (i := 6) (v := ?_) rfl (by kernel_rfl) (by kernel_rfl) (by kernel_rfl) Leaves.panic (Or.inl ⟨by rfl, ?_⟩) (fun K hK => ?_)
                  rotate_left 1
                  · (intro w; go_simp; try with_reducible rfl)
                  go_simp
                  refine hK _ _ ?_
                  clear hK K
                  refine wpAny_ready (rs := [12]) (by kernel_rfl) (by simp) ?_
                  refine AllReady.cons rfl (fun K hK => ?_) ?_
                  · go_simp
                    refine (text_calls (uw pn) pbb (uw_lt pn) _).mono ?_
                    rintro e w4 ⟨rfl, h4⟩
                    have HG4 := Lib.hid (undrawn h4)
                    clear h4
                    try go_simp
                    refine hK _ _ ?_
                    clear hK K
                    refine take_k (i := 13) (v := ?_) rfl (by kernel_rfl) (by kernel_rfl) (by kernel_rfl) Leaves.panic (Or.inl ⟨by rfl, ?_⟩) (fun K hK => ?_)
                    rotate_left 1
                    · (intro w; go_simp; try with_reducible rfl)
                    go_simp
                    refine hK _ _ ?_
                    clear hK K
                    refine take_k (i := 14) (v := ?_) rfl (by kernel_rfl) (by kernel_rfl) (by kernel_rfl) Leaves.panic (Or.inl ⟨by rfl, ?_⟩) (fun K hK => ?_)
                    rotate_left 1
                    · (intro w; go_simp; try with_reducible rfl)
                    go_simp
                    refine hK _ _ ?_
                    clear hK K
                    refine wpAny_done (by kernel_rfl) ?_ _
                    refine ⟨rfl, ?_, HG4⟩
                    simp only [puts]
                    go_simp
                  exact AllReady.nil
                exact AllReady.nil
              exact AllReady.nil
            refine AllReady.cons rfl (fun K hK => ?_) ?_
            · go_simp
              refine hK _ _ ?_
              clear hK K
              refine wpAny_ready (rs := [3]) (by kernel_rfl) (by simp) ?_
              refine AllReady.cons rfl (fun K hK => ?_) ?_
              · go_simp
                refine hK _ _ ?_
                clear hK K
                refine take_k (i := 4) (v := ?_) rfl (by kernel_rfl) (by kernel_rfl) (by kernel_rfl) Leaves.panic (Or.inl ⟨by rfl, ?_⟩) (fun K hK => ?_)
                rotate_left 1
                · (intro w; go_simp; try with_reducible rfl)
                go_simp
                refine hK _ _ ?_
                clear hK K
                refine wpAny_ready (rs := [5]) (by kernel_rfl) (by simp) ?_
                refine AllReady.cons rfl (fun K hK => ?_) ?_
                · go_simp
                  refine hK _ _ ?_
                  clear hK K
                  refine take_k (i := 6) (v := ?_) rfl (by kernel_rfl) (by kernel_rfl) (by kernel_rfl) Leaves.panic (Or.inl ⟨by rfl, ?_⟩) (fun K hK => ?_)
                  rotate_left 1
                  · (intro w; go_simp; try with_reducible rfl)
                  go_simp
                  refine hK _ _ ?_
                  clear hK K
                  refine wpAny_ready (rs := [12]) (by kernel_rfl) (by simp) ?_
                  refine AllReady.cons rfl (fun K hK => ?_) ?_
                  · go_simp
                    refine (text_calls (uw pn) pbb (uw_lt pn) _).mono ?_
                    rintro e w4 ⟨rfl, h4⟩
                    have HG4 := Lib.hid (undrawn h4)
                    clear h4
                    try go_simp
                    refine hK _ _ ?_
                    clear hK K
                    refine take_k (i := 13) (v := ?_) rfl (by kernel_rfl) (by kernel_rfl) (by kernel_rfl) Leaves.panic (Or.inl ⟨by rfl, ?_⟩) (fun K hK => ?_)
                    rotate_left 1
                    · (intro w; go_simp; try with_reducible rfl)
                    go_simp
                    refine hK _ _ ?_
                    clear hK K
                    refine take_k (i := 14) (v := ?_) rfl (by kernel_rfl) (by kernel_rfl) (by kernel_rfl) Leaves.panic (Or.inl ⟨by rfl, ?_⟩) (fun K hK => ?_)
                    rotate_left 1
                    · (intro w; go_simp; try with_reducible rfl)
                    go_simp
                    refine hK _ _ ?_
                    clear hK K
                    refine wpAny_done (by kernel_rfl) ?_ _
                    refine ⟨rfl, ?_, HG4⟩
                    simp only [puts]
                    go_simp
                  exact AllReady.nil
                exact AllReady.nil
              exact AllReady.nil
            exact AllReady.nil
          exact AllReady.nil
        intro w4 HG4
        simp only [puts]
        go_simp
        go_wp2_with fail
        go_roundw
        case rel => exact ⟨k + 1, S2, by omega, by omega, rfl, by go_num, HS2, Lib.hid (HW3.out.grown HG4.out)⟩
        case measure => simp [iv]; omega
    · rcases (show ¬ k < n ∨ (k < n ∧ ¬ k < 100) by omega) with h | ⟨h, h2⟩
      · clear hlt
        have HL : Hid (pbs (l.take 100) = pbs (l.take k)) := Lib.hid (by
          have : k = n := by omega
          have hl := HR.out.1
          rw [List.take_of_length_le (by omega), List.take_of_length_le (by omega)])
        go_wp2_with fail
        go_ret2
        refine ⟨gw, v, by rw [HL.out, HS.out]; rfl, by rw [HL.out]; exact HWR.out, by have := HGW.out; omega, HG.out⟩
      · clear hlt
        have HL : Hid (pbs (l.take 100) = pbs (l.take k)) := Lib.hid (by rw [show k = 100 by omega])
        go_wp2_with fail
        go_ret2
        refine ⟨gw, v, by rw [HL.out, HS.out]; rfl, by rw [HL.out]; exact HWR.out, by have := HGW.out; omega, HG.out⟩
end Go.Proofs.Ytldgldibkibknaa
