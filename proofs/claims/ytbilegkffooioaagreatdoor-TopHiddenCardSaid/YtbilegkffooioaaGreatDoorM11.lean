/-
  Regions whose order is drawn: what holds whatever has come up so far.
-/
import Derived.Test.YtbilegkffooioaaGreatDoorM10
import Derived.Test.YtbilegkffooioaaGreatDoorM09
namespace Go.Ev

/-! ### the check, read -/
theorem bounds_mem : ∀ {l : List Oper} {r : List St} {i k : Nat} {o : Oper} {s : St}, l[k]? = some o → r[k]? = some s → isChain o = true → s.want = true → (i + k + 1, s.m) ∈ bounds l r i
  | [], _, _, _, _, _, h, _, _, _ => by simp at h
  | _ :: _, [], _, _, _, _, _, h, _, _ => by simp at h
  | x :: l, y :: r, i, 0, o, s, h1, h2, h3, h4 => by
    simp at h1 h2
    subst h1; subst h2
    simp only [bounds, h3, h4, Bool.and_self, if_true]
    exact List.mem_cons_self ..
  | x :: l, y :: r, i, k + 1, o, s, h1, h2, h3, h4 => by
    simp at h1 h2
    have := bounds_mem (i := i + 1) h1 h2 h3 h4
    rw [show i + 1 + k + 1 = i + (k + 1) + 1 by omega] at this
    simp only [bounds]
    split
    · exact List.mem_cons_of_mem _ this
    · exact this

theorem bounds_of : ∀ {l : List Oper} {r : List St} {i : Nat} {x : Nat × Mem}, x ∈ bounds l r i → ∃ k o s, l[k]? = some o ∧ r[k]? = some s ∧ isChain o = true ∧ s.want = true ∧ x.1 = i + k + 1
  | [], _, _, _, h => by simp [bounds] at h
  | _ :: _, [], _, _, h => by simp [bounds] at h
  | y :: l, z :: r, i, x, h => by
    simp only [bounds] at h
    have back : x ∈ bounds l r (i + 1) → ∃ k o s, (y :: l)[k]? = some o ∧ (z :: r)[k]? = some s ∧ isChain o = true ∧ s.want = true ∧ x.1 = i + k + 1 := fun h => by
      obtain ⟨k, o, s, h1, h2, h3, h4, h5⟩ := bounds_of h
      exact ⟨k + 1, o, s, by simpa using h1, by simpa using h2, h3, h4, by omega⟩
    split at h
    · rename_i hc
      simp only [Bool.and_eq_true] at hc
      rcases List.mem_cons.1 h with rfl | h
      · exact ⟨0, y, z, rfl, rfl, hc.1, hc.2, rfl⟩
      · exact back h
    · exact back h

theorem checkAll_spec {P : Program} {base : Nat} {call : CallF} {mk chs : List Nat} {bs : List (Nat × Mem)} : ∀ {l : List Oper} {r : List St} {i : Nat}, checkAll P base call mk chs bs l r i = true → ∀ {k : Nat} {o : Oper} {s : St}, l[k]? = some o → r[k]? = some s →
    kindOf o = .quiet → s.want = true → ∀ x ∈ bs, x.1 = s.c ∨ quietOk P base call chs mk (i + k) o s x.1 x.2 = true
  | [], _, _, _, _, _, _, h, _, _, _ => by simp at h
  | _ :: _, [], _, _, _, _, _, _, h, _, _ => by simp at h
  | y :: l, z :: r, i, e, k, o, s, h1, h2, h3, h4 => by
    simp only [checkAll, Bool.and_eq_true] at e
    cases k with
    | zero =>
      simp at h1 h2
      subst h1; subst h2
      have e1 := e.1
      rw [h3] at e1
      simp only [h4, Bool.not_true, Bool.false_or, List.all_eq_true, Bool.or_eq_true] at e1
      intro x hx
      rcases e1 x hx with h | h
      · exact .inl (Nat.eq_of_beq_eq_true h)
      · exact .inr h
    | succ k =>
      simp at h1 h2
      intro x hx
      have := checkAll_spec e.2 h1 h2 h3 h4 x hx
      rwa [show i + (k + 1) = i + 1 + k by omega]

/-- All that the evaluator has seen to. -/
structure Cx (P : Program) (base : Nat) (call : CallF) (ops : List Oper) (m : Mem) (fr0 : Fr) (M : Nat → Mem) (F : Nat → Fr) (V : Nat → Value) (W : Nat → Bool) (C : Nat → Nat) : Prop where
  ok : RegionOk ops
  m0 : (M 0).blks = m.blks ∧ m.next ≤ (M 0).next ∧ (ops.any isFloat = true → m.next + ops.length ≤ (M 0).next)
  f0 : F 0 = fr0
  step : ∀ j o, ops[j]? = some o → Step P base call ops m.next M F V W C j o
  quiet : ∀ i o, ops[i]? = some o → kindOf o = .quiet → W i = true → ∀ c, (c = 0 ∨ ∃ oc, ops[c - 1]? = some oc ∧ isChain oc = true ∧ W (c - 1) = true ∧ 0 < c) →
    (∀ j oj, ops[j]? = some oj → isChain oj = true → W j = true → (j < c → Nat.testBit ((masks ops []).getD j 0) i = false) ∧ (¬ j < c → Nat.testBit ((masks ops []).getD i 0) j = false)) →
    ∃ m', evOp P base call (F i) (M c) o = some (V i, m')

theorem evDrawn_cx {P : Program} {base : Nat} {call : CallF} {ops : List Oper} {fr fr' : Fr} {m m' : Mem} (e : evDrawn P base call ops fr m = some (fr', m')) :
    ∃ M F V W C, Cx P base call ops m fr M F V W C ∧ F ops.length = fr' ∧ M ops.length = m' := by
  unfold evDrawn at e
  split at e
  · rename_i hok
    have hok' := regionOk_spec hok
    split at e
    · cases e
    · rename_i r fr1 m1 hlex
      split at e
      · rename_i hchk
        simp only [Option.some.injEq, Prod.mk.injEq] at e
        obtain ⟨rfl, rfl⟩ := e
        obtain ⟨M, F, V, W, C, q1, q2, q3, q4, q5⟩ := lex_spec ops 0 fr 0 _ _ r fr1 m1 (fun _ => bump ops m) hlex rfl rfl (Nat.le_refl _)
        simp only [Nat.zero_add] at q3 q4
        have hst : ∀ k, k < ops.length → r[k]? = some ⟨F k, W k, V k, M (k + 1), C k⟩ := fun k hk => by have := q5.st k hk; simpa using this
        refine ⟨M, F, V, W, C, ⟨hok', ?_, q2, fun j o hj => by have := q5.step j o hj; simpa using this, fun i o hi hk hw c hc hs => ?_⟩, q3, q4⟩
        · rw [q1 0 (Nat.le_refl _)]
          refine ⟨rfl, Nat.le_add_right _ _, fun hf => ?_⟩
          simp only [bump, hf, if_true]
          exact Nat.le_refl _
        · have hil : i < ops.length := (List.getElem?_eq_some_iff.1 hi).1
          have hstep := q5.step i o hi
          rw [Nat.zero_add] at hstep
          have hmem : (c, M c) ∈ (0, bump ops m) :: bounds ops r 0 := by
            rcases hc with rfl | ⟨oc, h1, h2, h3, h4⟩
            · rw [q1 0 (Nat.le_refl _)]; exact List.mem_cons_self ..
            · have hcl : c - 1 < ops.length := (List.getElem?_eq_some_iff.1 h1).1
              have := bounds_mem (i := 0) h1 (hst (c - 1) hcl) h2 h3
              simp only [Nat.zero_add, show c - 1 + 1 = c by omega] at this
              exact List.mem_cons_of_mem _ this
          rcases checkAll_spec hchk hi (hst i hil) hk hw _ hmem with h | h
          · simp only at h
            rw [h]
            exact (hstep.quiet hw hk).2
          · simp only [quietOk, Nat.zero_add, Bool.or_eq_true, Bool.not_eq_true'] at h
            rcases h with h | h
            · exfalso
              have : standsAt ((bounds ops r 0).map (·.1 - 1)) (masks ops []) i c = true := by
                simp only [standsAt, List.all_eq_true, List.mem_map]
                rintro j ⟨x, hx, rfl⟩
                obtain ⟨k, o', s', b1, b2, b3, b4, b5⟩ := bounds_of hx
                have hkl : k < ops.length := (List.getElem?_eq_some_iff.1 b1).1
                have hs' := hst k hkl
                rw [b2] at hs'
                cases hs'
                have hk2 : x.1 - 1 = k := by omega
                rw [hk2]
                obtain ⟨s1, s2⟩ := hs k o' b1 b3 b4
                by_cases hlt : k < c
                · rw [show Nat.blt k c = true by rw [Nat.blt_eq]; exact hlt]
                  rw [if_pos rfl, s1 hlt]; rfl
                · rw [show Nat.blt k c = false by cases hb : Nat.blt k c; rfl; rw [Nat.blt_eq] at hb; exact absurd hb hlt]
                  rw [if_neg Bool.false_ne_true, s2 hlt]; rfl
              rw [this] at h; cases h
            · split at h
              · rename_i v1 m2 hop
                rw [veq_eq h] at hop
                exact ⟨m2, hop⟩
              · cases h
      · cases e
  · cases e

/-! ### frames -/
theorem put_get {fr fr' : Fr} {d : Option Tmp} {v : Value} (h : fr.put d v = some fr') : fr'.n = fr.n ∧ ∀ t, (fr'.tm.get t).getD undef = if d = some t then v else (fr.tm.get t).getD undef := by
  cases d with
  | none => cases h; exact ⟨rfl, fun t => by simp⟩
  | some d =>
    simp only [Fr.put] at h
    split at h
    · cases h
      refine ⟨rfl, fun t => ?_⟩
      simp only [Tr.get_set, Option.some.injEq]
      by_cases ht : t = d
      · subst ht; simp
      · rw [if_neg ht, if_neg (fun h => ht h.symm)]
    · cases h

theorem put_like {fr fr' g : Fr} {d : Option Tmp} {v : Value} (h : fr.put d v = some fr') (hn : g.n = fr.n) : ∃ g', g.put d v = some g' := by
  cases d with
  | none => exact ⟨g, rfl⟩
  | some d =>
    simp only [Fr.put] at h ⊢
    split at h
    · rename_i hlt
      rw [if_pos (by rw [hn]; exact hlt)]
      exact ⟨_, rfl⟩
    · cases h

theorem apart_dst {ops : List Oper} (hok : RegionOk ops) {i j : Nat} {oi oj : Oper} (hi : ops[i]? = some oi) (hj : ops[j]? = some oj) (hij : i ≠ j) {t : Tmp} (h1 : oi.dst = some t) (h2 : oj.dst = some t) : False := by
  have key : ∀ (i j : Nat) (oi oj : Oper), ops[i]? = some oi → ops[j]? = some oj → i < j → oi.dst = some t → oj.dst = some t → False := fun i j oi oj hi hj hlt h1 h2 => by
    have := (hok.pair i j oi oj hi hj hlt).2
    simp only [apartB, h1, h2, Bool.not_eq_true'] at this
    rw [show Nat.beq t t = true from Nat.beq_refl t] at this
    cases this
  rcases Nat.lt_or_gt_of_ne hij with h | h
  · exact key i j oi oj hi hj h h1 h2
  · exact key j i oj oi hj hi h h2 h1

section
variable {P : Program} {base : Nat} {call : CallF} {ops : List Oper} {m : Mem} {fr0 : Fr} {M : Nat → Mem} {F : Nat → Fr} {V : Nat → Value} {W : Nat → Bool} {C : Nat → Nat}

theorem Cx.frame (cx : Cx P base call ops m fr0 M F V W C) : ∀ i, i ≤ ops.length → (F i).n = fr0.n ∧ (∀ j o t, ops[j]? = some o → j < i → o.dst = some t → ((F i).tm.get t).getD undef = V j) ∧
    ∀ t, (∀ j o, ops[j]? = some o → j < i → o.dst ≠ some t) → ((F i).tm.get t).getD undef = (fr0.tm.get t).getD undef
  | 0, _ => by rw [cx.f0]; exact ⟨rfl, fun j o t _ h => absurd h (by omega), fun t _ => rfl⟩
  | i + 1, hi => by
    obtain ⟨h1, h2, h3⟩ := cx.frame i (by omega)
    have ho : ops[i]? = some ops[i] := by simp [show i < ops.length by omega]
    obtain ⟨p1, p2⟩ := put_get (cx.step i _ ho).put
    refine ⟨p1.trans h1, fun j o t hj hlt hd => ?_, fun t hno => ?_⟩
    · rw [p2]
      by_cases hji : j = i
      · subst hji
        have : o = ops[j] := Option.some.inj (hj.symm.trans ho)
        subst this
        rw [if_pos hd]
      · rw [if_neg fun hd' => apart_dst cx.ok ho hj (Ne.symm hji) hd' hd]
        exact h2 j o t hj (by omega) hd
    · rw [p2, if_neg (hno i _ ho (by omega))]
      exact h3 t fun j o hj hlt => hno j o hj (by omega)

/-- Between two of the chain nothing comes but what is new. -/
theorem Cx.still (cx : Cx P base call ops m fr0 M F V W C) {c : Nat} : ∀ j, c ≤ j → j ≤ ops.length → (∀ k o, ops[k]? = some o → c ≤ k → k < j → isChain o = true → W k = true → False) →
    (M j).next = (M c).next ∧ ∀ b k, (M j).blks.get b = some k → (M c).blks.get b = some k ∨ ∃ i o, ops[i]? = some o ∧ c ≤ i ∧ i < j ∧ isFloat o = true ∧ W i = true ∧ fblkOf P o = some k ∧ b = m.next + i
  | j, hcj, hj, hno => by
    by_cases hcj' : c = j
    · subst hcj'; exact ⟨rfl, fun b k h => .inl h⟩
    · obtain ⟨j', rfl⟩ : ∃ j', j = j' + 1 := ⟨j - 1, by omega⟩
      obtain ⟨h1, h2⟩ := cx.still j' (by omega) (by omega) fun k o hk h1 h2 => hno k o hk h1 (by omega)
      have ho : ops[j']? = some ops[j'] := by simp [show j' < ops.length by omega]
      have hs := cx.step j' _ ho
      have widen : ∀ b k, ((M c).blks.get b = some k ∨ ∃ i o, ops[i]? = some o ∧ c ≤ i ∧ i < j' ∧ isFloat o = true ∧ W i = true ∧ fblkOf P o = some k ∧ b = m.next + i) →
          ((M c).blks.get b = some k ∨ ∃ i o, ops[i]? = some o ∧ c ≤ i ∧ i < j' + 1 ∧ isFloat o = true ∧ W i = true ∧ fblkOf P o = some k ∧ b = m.next + i) := fun b k h => by
        rcases h with h | ⟨i, o, a1, a2, a3, a4⟩
        · exact .inl h
        · exact .inr ⟨i, o, a1, a2, by omega, a4⟩
      cases hw : W j' with
      | false =>
        rw [(hs.skip hw).2]
        exact ⟨h1, fun b k h => widen b k (h2 b k h)⟩
      | true =>
        cases hk : kindOf ops[j'] with
        | quiet =>
          rw [(hs.quiet hw hk).1]
          exact ⟨h1, fun b k h => widen b k (h2 b k h)⟩
        | chain => exact (hno j' _ ho (by omega) (by omega) (by simp [isChain, hk]) hw).elim
        | float =>
          obtain ⟨_, k0, hk0, hM⟩ := hs.float hw hk
          rw [hM]
          refine ⟨h1, fun b k h => ?_⟩
          simp only [Tr.get_set] at h
          split at h
          · rename_i hb
            cases h
            exact .inr ⟨j', _, ho, by omega, by omega, by simp [isFloat, hk], hw, hk0, hb⟩
          · exact widen b k (h2 b k h)
end

end Go.Ev
/-
  Regions whose order is drawn: every order comes to the same.
-/
namespace Go.Ev

/-! ### a new block under a number that was kept for it -/
theorem went_kept {P : Program} {base : Nat} {ρ0 ρ : Ren} {m X X' : Mem} {w0 w : World} (h : Went P base ρ0 m w0 ρ X w) {b : Nat} (hmb : m.next ≤ b) (hbX : b < X.next) (hρ : ρ b = none) {k : Blk} {o : Obj}
    (hn : X'.next = X.next) (hget : ∀ x, X'.blks.get x = if x = b then some k else X.blks.get x)
    (hb : BR P (ρ.with b ⟨w.heap.size, 0, 0⟩) k ⟨w.heap.size, 0, 0⟩ { w with heap := w.heap.push o }) :
    Went P base ρ0 m w0 (ρ.with b ⟨w.heap.size, 0, 0⟩) X' { w with heap := w.heap.push o } := by
  have he := Ren.ext_with (s := ⟨w.heap.size, 0, 0⟩) hρ
  have h1 := h.rel
  have hold : ∀ c, c < w.heap.size → (w.heap.push o)[c]? = w.heap[c]? := fun c hc => by rw [Array.getElem?_push, if_neg (by omega)]
  have hlt : ∀ x s, ρ x = some s → live X x → s.blk < w.heap.size := fun x s hs ⟨k', hk', hd⟩ => by
    obtain ⟨s', hs', hbr⟩ := h1.im x k' hk' hd
    have : s' = s := Option.some.inj (hs'.symm.trans hs)
    subst this
    cases k' with
    | cells c n t z => obtain ⟨cs, h1, _⟩ := hbr; exact (Array.getElem?_eq_some_iff.1 h1).1
    | bytes c n t => obtain ⟨cs, h1, _⟩ := hbr; exact (Array.getElem?_eq_some_iff.1 h1).1
    | obj o => obtain ⟨_, o', h1, _⟩ := hbr; exact (Array.getElem?_eq_some_iff.1 h1).1
    | dead => exact absurd rfl hd
  have hl' : ∀ x, x ≠ b → live X' x → live X x := fun x hx ⟨k', hk', hd⟩ => ⟨k', by rw [hget, if_neg hx] at hk'; exact hk', hd⟩
  have hlow := h.rel.low
  have hbase : base ≤ b := by
    by_cases hbb : base ≤ b
    · exact hbb
    · have := h1.glob b (by omega); rw [hρ] at this; cases this
  refine ⟨h.ext.trans he, ⟨fun x hx => ?_, fun x k' hk' hd => ?_, fun x k' hk' hd => ?_, fun x y s s' hx hy hs hs' heq => ?_, fun x hx => ?_, hn ▸ hlow⟩,
    ⟨by simp only [Array.size_push]; have := h.kept.size; omega, fun c hc hno => (hold c (Nat.lt_of_lt_of_le hc h.kept.size)).trans (h.kept.heap c hc hno), h.kept.os, h.kept.out, h.kept.tape⟩, fun x s hx hlx hs => ?_, hn ▸ h.next, fun x hx hlx => ?_, fun x hx => ?_⟩
  · rw [Ren.with, if_neg (by omega)]; exact h1.dom x (hn ▸ hx)
  · by_cases hxb : x = b
    · rw [hn, hxb]; exact hbX
    · rw [hget, if_neg hxb] at hk'; rw [hn]; exact h1.bnd x k' hk' hd
  · by_cases hxb : x = b
    · subst hxb
      rw [hget, if_pos rfl] at hk'
      cases hk'
      exact ⟨_, by rw [Ren.with, if_pos rfl], hb⟩
    · rw [hget, if_neg hxb] at hk'
      obtain ⟨s, hs, hbr⟩ := h1.im x k' hk' hd
      exact ⟨s, he x s hs, hbr.mono he (hold _ (hlt x s hs ⟨k', hk', hd⟩))⟩
  · by_cases hx1 : x = b <;> by_cases hy1 : y = b
    · rw [hx1, hy1]
    · subst hx1
      rw [Ren.with, if_pos rfl] at hs
      rw [Ren.with, if_neg hy1] at hs'
      have := hlt y s' hs' (hl' y hy1 hy)
      cases hs
      simp only at heq
      omega
    · subst hy1
      rw [Ren.with, if_pos rfl] at hs'
      rw [Ren.with, if_neg hx1] at hs
      have := hlt x s hs (hl' x hx1 hx)
      cases hs'
      simp only at heq
      omega
    · rw [Ren.with, if_neg hx1] at hs
      rw [Ren.with, if_neg hy1] at hs'
      exact h1.inj x y s s' (hl' x hx1 hx) (hl' y hy1 hy) hs hs' heq
  · rw [Ren.with, if_neg (by omega)]; exact h1.glob x hx
  · by_cases hxb : x = b
    · subst hxb
      rw [Ren.with, if_pos rfl] at hs
      cases hs
      exact .inl h.kept.size
    · rw [Ren.with, if_neg hxb] at hs
      exact h.fresh x s hx (hl' x hxb hlx) hs
  · exact h.none x hx (hl' x (by omega) hlx)
  · rw [Ren.with, if_neg (by omega)]; exact h.same x hx

/-- Less is known, of the same world. -/
theorem Went.less {P : Program} {base : Nat} {ρ ρ' : Ren} {m X X' : Mem} {w w' : World} (h : Went P base ρ m w ρ' X w') (hs : Sub X' X) : Went P base ρ m w ρ' X' w' where
  ext := h.ext
  rel := h.rel.sub hs
  kept := h.kept
  fresh := fun b s hb hl => h.fresh b s hb (hs.live hl)
  next := hs.1 ▸ h.next
  none := fun b hb hl => h.none b hb (hs.live hl)
  same := h.same

/-- Some numbers of a range, with what is there. -/
theorem exists_mem (A : Mem) (p : Nat → Option Blk) (n0 : Nat) : ∀ n, ∃ X : Mem, X.next = A.next ∧ ∀ b, X.blks.get b = if n0 ≤ b ∧ b < n0 + n then (match p b with | some k => some k | none => A.blks.get b) else A.blks.get b
  | 0 => ⟨A, rfl, fun b => by rw [if_neg (by omega)]⟩
  | n + 1 => by
    obtain ⟨X, h1, h2⟩ := exists_mem A p n0 n
    cases hp : p (n0 + n) with
    | none =>
      refine ⟨X, h1, fun b => ?_⟩
      rw [h2]
      by_cases hb : b = n0 + n
      · subst hb
        rw [if_neg (by omega), if_pos (by omega), hp]
      · by_cases h : n0 ≤ b ∧ b < n0 + n
        · rw [if_pos h, if_pos (by omega)]
        · rw [if_neg h, if_neg (by omega)]
    | some k =>
      refine ⟨{ X with blks := X.blks.set (n0 + n) k }, h1, fun b => ?_⟩
      simp only [Tr.get_set, h2]
      by_cases hb : b = n0 + n
      · subst hb
        rw [if_pos rfl, if_pos (by omega), hp]
      · rw [if_neg hb]
        by_cases h : n0 ≤ b ∧ b < n0 + n
        · rw [if_pos h, if_pos (by omega)]
        · rw [if_neg h, if_neg (by omega)]

def inS (S : Array Bool) (j : Nat) : Prop := S.getD j false = true

theorem inS_set {S : Array Bool} {i : Nat} (hi : i < S.size) (j : Nat) : inS (S.setIfInBounds i true) j ↔ j = i ∨ inS S j := by
  unfold inS
  by_cases hj : j = i
  · subst hj; simp [hi]
  · rw [getD_set_ne false (Ne.symm hj)]
    simp [hj]

theorem any_float {ops : List Oper} {i : Nat} {o : Oper} (h : ops[i]? = some o) (hf : isFloat o = true) : ops.any isFloat = true := List.any_eq_true.2 ⟨o, List.mem_of_getElem? h, hf⟩

section
variable (P : Program) (base : Nat) (ops : List Oper) (m : Mem) (fr0 : Fr) (M : Nat → Mem) (V : Nat → Value) (W : Nat → Bool) (ρ0 : Ren) (w0 : World)

/-- What holds when so many have come up: the last of the chain is the one before 'c'. -/
structure Inv (S : Array Bool) (a : Act) (w : World) (c : Nat) (ρ : Ren) (g : Fr) (X : Mem) : Prop where
  size : S.size = ops.length
  closed : ∀ j o, ops[j]? = some o → inS S j → ∀ e ∈ o.after, Region.binds .any e = true → inS S e.on
  went : Went P base ρ0 m w0 ρ X w
  fr : FR ρ g a
  gn : g.n = fr0.n
  in_ : ∀ (j : Nat) (o : Oper) (t : Tmp), ops[j]? = some o → inS S j → o.dst = some t → (g.tm.get t).getD undef = V j
  out : ∀ t, (∀ (j : Nat) (o : Oper), ops[j]? = some o → inS S j → o.dst ≠ some t) → (g.tm.get t).getD undef = (fr0.tm.get t).getD undef
  cle : c ≤ ops.length
  cin : ∀ j o, ops[j]? = some o → isChain o = true → W j = true → (inS S j ↔ j < c)
  cat : c = 0 ∨ ∃ oc, ops[c - 1]? = some oc ∧ isChain oc = true ∧ W (c - 1) = true ∧ 0 < c
  sub : Sub (M c) X
  fl : ∀ i o, ops[i]? = some o → isFloat o = true → W i = true → inS S i → c ≤ i → ∃ k, fblkOf P o = some k ∧ X.blks.get (m.next + i) = some k
  only : ∀ b k, X.blks.get b = some k → k ≠ .dead → (M c).blks.get b = some k ∨ ∃ i o, ops[i]? = some o ∧ isFloat o = true ∧ b = m.next + i
  none : ∀ i o, ops[i]? = some o → isFloat o = true → ¬ inS S i → ρ (m.next + i) = none
  dead : ∀ i o, ops[i]? = some o → isFloat o = true → c ≤ i → ¬ live (M c) (m.next + i)
  room : ∀ i o, ops[i]? = some o → isFloat o = true → m.next + i < X.next
end

section
variable {P : Program} {base : Nat} {call : CallF} {ops : List Oper} {m : Mem} {fr0 : Fr} {M : Nat → Mem} {F : Nat → Fr} {V : Nat → Value} {W : Nat → Bool} {C : Nat → Nat} {ρ0 : Ren} {w0 : World}

/-- All that must be ahead is there. -/
theorem Inv.mask (cx : Cx P base call ops m fr0 M F V W C) {S : Array Bool} {a : Act} {w : World} {c : Nat} {ρ : Ren} {g : Fr} {X : Mem} (h : Inv P base ops m fr0 M V W ρ0 w0 S a w c ρ g X) {j i : Nat} (hj : j < ops.length) (hS : inS S j)
    (hb : Nat.testBit ((masks ops []).getD j 0) i = true) : inS S i :=
  mask_listed cx.ok (S := inS S) h.closed (j + 1) j (Nat.lt_succ_self j) hj hS i hb

theorem Inv.mask_ready (cx : Cx P base call ops m fr0 M F V W C) {S : Array Bool} {a : Act} {w : World} {c : Nat} {ρ : Ren} {g : Fr} {X : Mem} (h : Inv P base ops m fr0 M V W ρ0 w0 S a w c ρ g X) {j i : Nat} {o : Oper} (hj : ops[j]? = some o)
    (hr : ∀ e ∈ o.after, Region.binds .any e = true → inS S e.on) (hb : Nat.testBit ((masks ops []).getD j 0) i = true) : inS S i := by
  obtain ⟨e, h1, h2, h3⟩ := mask_back cx.ok hj hb
  have hlt := cx.ok.back j o hj e h1 h2
  have hl : j < ops.length := (List.getElem?_eq_some_iff.1 hj).1
  rcases h3 with h3 | h3
  · exact h3 ▸ hr e h1 h2
  · exact h.mask cx (by omega) (hr e h1 h2) h3

theorem pair_spec {mk : List Nat} {i j : Nat} {oi oj : Oper} (h : pairOk ops mk i oi j oj = true) : Nat.testBit (mk.getD j 0) i = true ∨
    (¬ (isChain oj = true ∧ (isChain oi = true ∨ isFloat oi = true)) ∧ (∀ d, oi.dst = some d → d ∉ looks ops oj) ∧ (∀ d, oj.dst = some d → d ∉ looks ops oi)) := by
  simp only [pairOk, Bool.or_eq_true, Bool.and_eq_true, Bool.not_eq_true'] at h
  rcases h with h | ⟨⟨h1, h2⟩, h3⟩
  · exact .inl h
  · refine .inr ⟨fun ⟨ha, hb⟩ => ?_, fun d hd => ?_, fun d hd => ?_⟩
    · have : (isChain oj && (isChain oi || isFloat oi)) = true := by simp [ha, hb]
      rw [this] at h1; cases h1
    · rw [hd] at h2; simpa using h2
    · rw [hd] at h3; simpa using h3

theorem Inv.like (cx : Cx P base call ops m fr0 M F V W C) {S : Array Bool} {a : Act} {w : World} {c : Nat} {ρ : Ren} {g : Fr} {X : Mem} (h : Inv P base ops m fr0 M V W ρ0 w0 S a w c ρ g X) {i : Nat} {o : Oper} (hi : ops[i]? = some o) (hS : ¬ inS S i)
    (hr : ∀ e ∈ o.after, Region.binds .any e = true → inS S e.on) : Like ops g (F i) o := by
  have hl : i < ops.length := (List.getElem?_eq_some_iff.1 hi).1
  obtain ⟨f1, f2, f3⟩ := cx.frame i (by omega)
  refine ⟨h.gn.trans f1.symm, fun t ht => ?_⟩
  by_cases hex : ∃ (j : Nat) (oj : Oper), ops[j]? = some oj ∧ oj.dst = some t
  · obtain ⟨j, oj, hj, hd⟩ := hex
    have hjl : j < ops.length := (List.getElem?_eq_some_iff.1 hj).1
    have uniq : ∀ (j' : Nat) (o' : Oper), ops[j']? = some o' → j' ≠ j → o'.dst ≠ some t := fun j' o' h1 h2 h3 => apart_dst cx.ok h1 hj h2 h3 hd
    have gout : ¬ inS S j → (g.tm.get t).getD undef = (fr0.tm.get t).getD undef := fun hn => h.out t fun j' o' h1 h2 h3 => by
      by_cases hjj : j' = j
      · exact hn (hjj ▸ h2)
      · exact uniq j' o' h1 hjj h3
    have fout : ¬ j < i → ((F i).tm.get t).getD undef = (fr0.tm.get t).getD undef := fun hn => f3 t fun j' o' h1 h2 h3 => by
      by_cases hjj : j' = j
      · exact hn (hjj ▸ h2)
      · exact uniq j' o' h1 hjj h3
    by_cases hji : j = i
    · subst hji
      rw [gout hS, fout (by omega)]
    · rcases Nat.lt_or_gt_of_ne hji with hlt | hgt
      · rcases pair_spec (cx.ok.pair j i oj o hj hi hlt).1 with hp | ⟨_, hp, _⟩
        · have := h.mask_ready cx hi hr hp
          rw [h.in_ j oj t hj this hd, f2 j oj t hj hlt hd]
        · exact absurd ht (hp t hd)
      · rcases pair_spec (cx.ok.pair i j o oj hi hj hgt).1 with hp | ⟨_, _, hp⟩
        · have hn : ¬ inS S j := fun hj' => hS (h.mask cx hjl hj' hp)
          rw [gout hn, fout (by omega)]
        · exact absurd ht (hp t hd)
  · have hno : ∀ (j : Nat) (oj : Oper), ops[j]? = some oj → oj.dst ≠ some t := fun j oj h1 h2 => hex ⟨j, oj, h1, h2⟩
    rw [h.out t fun j oj h1 _ => hno j oj h1, f3 t fun j oj h1 _ => hno j oj h1]

/-- The part of it that speaks of the frame, one operation later. -/
theorem Inv.frame_next (cx : Cx P base call ops m fr0 M F V W C) {S : Array Bool} {a : Act} {w : World} {c : Nat} {ρ ρ' : Ren} {g : Fr} {X : Mem} (h : Inv P base ops m fr0 M V W ρ0 w0 S a w c ρ g X) {i : Nat} {o : Oper} (hi : ops[i]? = some o)
    (he : Ext ρ ρ') {v' : Value} (hv : VR ρ' (V i) v') : ∃ g', FR ρ' g' (a.put o.dst v') ∧ g'.n = fr0.n ∧
      (∀ (j : Nat) (o : Oper) (t : Tmp), ops[j]? = some o → inS (S.setIfInBounds i true) j → o.dst = some t → (g'.tm.get t).getD undef = V j) ∧
      (∀ t, (∀ (j : Nat) (o : Oper), ops[j]? = some o → inS (S.setIfInBounds i true) j → o.dst ≠ some t) → (g'.tm.get t).getD undef = (fr0.tm.get t).getD undef) := by
  have hl : i < ops.length := (List.getElem?_eq_some_iff.1 hi).1
  have hsz : i < S.size := by rw [h.size]; exact hl
  obtain ⟨g', hg'⟩ := put_like (cx.step i o hi).put (h.gn.trans (cx.frame i (by omega)).1.symm)
  obtain ⟨p1, p2⟩ := put_get hg'
  refine ⟨g', (h.fr.mono he).put hv hg', p1.trans h.gn, fun j oj t hj hS hd => ?_, fun t hno => ?_⟩
  · rw [p2]
    rcases (inS_set hsz j).1 hS with rfl | hS
    · have : oj = o := Option.some.inj (hj.symm.trans hi)
      subst this
      rw [if_pos hd]
    · by_cases hji : j = i
      · subst hji
        have : oj = o := Option.some.inj (hj.symm.trans hi)
        subst this
        rw [if_pos hd]
      · rw [if_neg fun hd' => apart_dst cx.ok hi hj (Ne.symm hji) hd' hd]
        exact h.in_ j oj t hj hS hd
  · rw [p2, if_neg (hno i o hi ((inS_set hsz i).2 (.inl rfl)))]
    exact h.out t fun j oj hj hS => hno j oj hj ((inS_set hsz j).2 (.inr hS))

theorem closed_next {S : Array Bool} (hsize : S.size = ops.length) (hcl : ∀ j o, ops[j]? = some o → inS S j → ∀ e ∈ o.after, Region.binds .any e = true → inS S e.on) {i : Nat} {o : Oper} (hi : ops[i]? = some o)
    (hr : ∀ e ∈ o.after, Region.binds .any e = true → inS S e.on) : ∀ j o, ops[j]? = some o → inS (S.setIfInBounds i true) j → ∀ e ∈ o.after, Region.binds .any e = true → inS (S.setIfInBounds i true) e.on := fun j oj hj hS e he hb => by
  have hsz : i < S.size := by rw [hsize]; exact (List.getElem?_eq_some_iff.1 hi).1
  rcases (inS_set hsz j).1 hS with rfl | hS
  · have : oj = o := Option.some.inj (hj.symm.trans hi)
    subst this
    exact (inS_set hsz _).2 (.inr (hr e he hb))
  · exact (inS_set hsz _).2 (.inr (hcl j oj hj hS e he hb))

end
end Go.Ev
/-
  Regions whose order is drawn: one operation, and all of them.
-/
namespace Go.Ev

section
variable {P : Program} {base : Nat} {call : CallF} {ops : List Oper} {m : Mem} {fr0 : Fr} {M : Nat → Mem} {F : Nat → Fr} {V : Nat → Value} {W : Nat → Bool} {C : Nat → Nat} {ρ0 : Ren} {w0 : World}

/-- Nothing that is known is turned. -/
theorem Inv.same (cx : Cx P base call ops m fr0 M F V W C) {S : Array Bool} {a : Act} {w w' : World} {c : Nat} {ρ ρ' : Ren} {g : Fr} {X : Mem} (h : Inv P base ops m fr0 M V W ρ0 w0 S a w c ρ g X) {i : Nat} {o : Oper} (hi : ops[i]? = some o)
    (hr : ∀ e ∈ o.after, Region.binds .any e = true → inS S e.on) (hk : W i = true → kindOf o = .quiet) (hw : Went P base ρ X w ρ' X w') (hr0 : Rel P base ρ0 m w0) {v' : Value} (hv : VR ρ' (V i) v') :
    ∃ g', Inv P base ops m fr0 M V W ρ0 w0 (S.setIfInBounds i true) (a.put o.dst v') w' c ρ' g' X := by
  have hl : i < ops.length := (List.getElem?_eq_some_iff.1 hi).1
  have hsz : i < S.size := by rw [h.size]; exact hl
  obtain ⟨g', g1, g2, g3, g4⟩ := h.frame_next cx hi hw.ext hv
  have uniq : ∀ j oj, ops[j]? = some oj → W j = true → (isChain oj = true ∨ isFloat oj = true) → j ≠ i := fun j oj hj hwj hc hji => by
    subst hji
    have : oj = o := Option.some.inj (hj.symm.trans hi)
    subst this
    simp [isChain, isFloat, hk hwj] at hc
  refine ⟨g', ⟨by simp [h.size], closed_next h.size h.closed hi hr, Went.trans hr0 h.went hw, g1, g2, g3, g4, h.cle, fun j oj hj hc hwj => ?_, h.cat, h.sub, fun j oj hj hf hwj hS hcj => ?_, h.only, fun j oj hj hf hn => ?_, h.dead, h.room⟩⟩
  · rw [inS_set hsz, ← h.cin j oj hj hc hwj]
    exact ⟨fun hh => hh.resolve_left (uniq j oj hj hwj (.inl hc)), .inr⟩
  · exact h.fl j oj hj hf hwj (((inS_set hsz j).1 hS).resolve_left (uniq j oj hj hwj (.inr hf))) hcj
  · rw [hw.same _ (h.room j oj hj hf)]
    exact h.none j oj hj hf fun hh => hn ((inS_set hsz j).2 (.inr hh))

/-- What is known now contains what the text's order knows at this place, if none of the chain is left before it, and all that is new before it has come. -/
theorem Inv.sub_at (cx : Cx P base call ops m fr0 M F V W C) {S : Array Bool} {a : Act} {w : World} {c : Nat} {ρ : Ren} {g : Fr} {X : Mem} (h : Inv P base ops m fr0 M V W ρ0 w0 S a w c ρ g X) {i : Nat} (hci : c ≤ i) (hil : i ≤ ops.length)
    (hno : ∀ k o, ops[k]? = some o → c ≤ k → k < i → isChain o = true → W k = true → False) (hfl : ∀ k o, ops[k]? = some o → k < i → isFloat o = true → W k = true → inS S k) : Sub (M i) X := by
  obtain ⟨h1, h2⟩ := cx.still i hci hil hno
  refine ⟨h1.trans h.sub.1, fun b k hb hd => ?_⟩
  rcases h2 b k hb with h3 | ⟨i', o', a1, a2, a3, a4, a5, a6, rfl⟩
  · exact h.sub.2 b k h3 hd
  · obtain ⟨k', b1, b2⟩ := h.fl i' o' a1 a4 a5 (hfl i' o' a1 a3 a4 a5) a2
    rw [a6] at b1
    cases b1
    exact b2

theorem float_chain {o : Oper} (h : isChain o = true) : isFloat o = false := by
  unfold isChain at h
  unfold isFloat
  cases hk : kindOf o <;> rw [hk] at h <;> first | rfl | cases h

theorem inv_step (hc : CallSound P base call) (hr0 : Rel P base ρ0 m w0) (cx : Cx P base call ops m fr0 M F V W C) {S : Array Bool} {a : Act} {w : World} {c : Nat} {ρ : Ren} {g : Fr} {X : Mem} (h : Inv P base ops m fr0 M V W ρ0 w0 S a w c ρ g X)
    {i : Nat} {o : Oper} (hi : ops[i]? = some o) (hS : ¬ inS S i) (hr : ∀ e ∈ o.after, Region.binds .any e = true → inS S e.on) {K : Act → World → Prop} {Q : Exit → Act → World → Prop}
    (hK : ∀ a' w' c' ρ' g' X', Inv P base ops m fr0 M V W ρ0 w0 (S.setIfInBounds i true) a' w' c' ρ' g' X' → K a' w') : wpOp P ops.toArray Q i K a w := by
  have hl : i < ops.length := (List.getElem?_eq_some_iff.1 hi).1
  have hsz : i < S.size := by rw [h.size]; exact hl
  have hlike := h.like cx hi hS hr
  have hstep := cx.step i o hi
  have hguard := guardB_sound h.fr ((like_guard hlike).trans hstep.guard)
  have hoi : ops.toArray[i]? = some o := by simpa using hi
  unfold wpOp
  simp only [hoi]
  rw [hguard]
  have hrel := h.went.rel
  cases hw : W i with
  | false =>
    rw [if_neg Bool.false_ne_true]
    obtain ⟨g', hI⟩ := h.same cx hi hr (fun h => by rw [hw] at h; cases h) (.refl hrel) hr0 (v' := undef) (by rw [(hstep.skip hw).1]; exact vr_undef ρ)
    exact hK _ _ _ _ _ _ hI
  | true =>
    rw [if_pos rfl]
    refine .inl ?_
    cases hk : kindOf o with
    | quiet =>
      obtain ⟨m2, hop⟩ := cx.quiet i o hi hk hw c h.cat fun j oj hj hcj hwj => by
        have hjl : j < ops.length := (List.getElem?_eq_some_iff.1 hj).1
        refine ⟨fun hlt => ?_, fun hnl => ?_⟩
        · cases hb : Nat.testBit ((masks ops []).getD j 0) i with
          | false => rfl
          | true => exact absurd (h.mask cx hjl ((h.cin j oj hj hcj hwj).2 hlt) hb) hS
        · cases hb : Nat.testBit ((masks ops []).getD i 0) j with
          | false => rfl
          | true => exact absurd ((h.cin j oj hj hcj hwj).1 (h.mask_ready cx hi hr hb)) hnl
      have := quiet_same hk hop
      subst this
      rw [← evOp_like hlike] at hop
      refine evOp_sound (hrel.sub h.sub) h.fr hc hop fun v' ρ' w' hw' hv => ?_
      have hsup := Went.sup (X' := X) hrel h.sub hw' h.sub.1.symm fun b k hb hd => by
        by_cases hlv : live (M c) b
        · obtain ⟨k', hk', hd'⟩ := hlv
          have := h.sub.2 b k' hk' hd'
          rw [hb] at this
          cases this
          exact .inl hk'
        · rcases h.only b k hb hd with h1 | ⟨i', o', a1, a2, rfl⟩
          · exact .inl h1
          · refine .inr ⟨by rw [h.sub.1]; exact h.room i' o' a1 a2, ?_, hlv, hb⟩
            have := hr0.low
            omega
      obtain ⟨g', hI⟩ := h.same cx hi hr (fun _ => hk) hsup hr0 hv
      exact hK _ _ _ _ _ _ hI
    | chain =>
      have hch : isChain o = true := by simp [isChain, hk]
      have hop := hstep.chain hw hk
      -- the chain stands in one order
      have hbefore : ∀ j oj, ops[j]? = some oj → j < i → (isChain oj = true ∨ isFloat oj = true) → inS S j := fun j oj hj hlt hcj => by
        rcases pair_spec (cx.ok.pair j i oj o hj hi hlt).1 with hp | ⟨hp, _⟩
        · exact h.mask_ready cx hi hr hp
        · exact absurd ⟨hch, hcj⟩ hp
      have hbehind : ∀ j oj, ops[j]? = some oj → i < j → isChain oj = true → ¬ inS S j := fun j oj hj hlt hcj hin => by
        rcases pair_spec (cx.ok.pair i j o oj hi hj hlt).1 with hp | ⟨hp, _⟩
        · exact hS (h.mask cx ((List.getElem?_eq_some_iff.1 hj).1) hin hp)
        · exact absurd ⟨hcj, .inl hch⟩ hp
      have hci : c ≤ i := by
        rcases h.cat with h0 | ⟨oc, h1, h2, h3, h4⟩
        · omega
        · have hin := (h.cin (c - 1) oc h1 h2 h3).2 (by omega)
          rcases Nat.lt_trichotomy (c - 1) i with hlt | heq | hgt
          · omega
          · exact absurd (heq ▸ hin) hS
          · exact absurd hin (hbehind (c - 1) oc h1 hgt h2)
      have hno : ∀ k o, ops[k]? = some o → c ≤ k → k < i → isChain o = true → W k = true → False := fun k ok hk1 h1 h2 h3 h4 => by
        have := (h.cin k ok hk1 h3 h4).1 (hbefore k ok hk1 h2 (.inl h3))
        omega
      have hsub := h.sub_at cx hci (by omega) hno fun k ok hk1 h1 h2 _ => hbefore k ok hk1 h1 (.inr h2)
      obtain ⟨hst1, hst2⟩ := cx.still i hci (by omega) hno
      rw [← evOp_like hlike] at hop
      refine evOp_sound (hrel.sub hsub) h.fr hc hop fun v' ρ' w' hw' hv => ?_
      -- what is new further on stays
      have hdead : ∀ i' o', ops[i']? = some o' → isFloat o' = true → i ≤ i' → ¬ live (M i) (m.next + i') := fun i' o' h1 h2 h3 ⟨k, hk1, hd⟩ => by
        rcases hst2 _ k hk1 with h4 | ⟨i2, o2, b1, b2, b3, _, _, _, b4⟩
        · exact h.dead i' o' h1 h2 (by omega) ⟨k, h4, hd⟩
        · omega
      obtain ⟨X', hx1, hx2⟩ := exists_mem (M (i + 1)) (fun b => if (ops[b - m.next]?.map isFloat).getD false && (W (b - m.next) && (S.getD (b - m.next) false && decide (i < b - m.next))) then X.blks.get b else none) m.next ops.length
      have hpos : ∀ i' o', ops[i']? = some o' → isFloat o' = true → W i' = true → inS S i' → i < i' → ∃ k, fblkOf P o' = some k ∧ X.blks.get (m.next + i') = some k ∧ X'.blks.get (m.next + i') = some k := fun i' o' h1 h2 h3 h4 h5 => by
        obtain ⟨k, k1, k2⟩ := h.fl i' o' h1 h2 h3 h4 (by omega)
        refine ⟨k, k1, k2, ?_⟩
        have hl' : i' < ops.length := (List.getElem?_eq_some_iff.1 h1).1
        unfold inS at h4
        rw [hx2, if_pos (by omega), show m.next + i' - m.next = i' by omega]
        simp [h1, h2, h3, h4, h5, k2]
      have hneg : ∀ b k, X'.blks.get b = some k → (M (i + 1)).blks.get b = some k ∨ ∃ i' o', ops[i']? = some o' ∧ isFloat o' = true ∧ W i' = true ∧ inS S i' ∧ i < i' ∧ b = m.next + i' ∧ X.blks.get b = some k := fun b k hb => by
        rw [hx2] at hb
        by_cases hrange : m.next ≤ b ∧ b < m.next + ops.length
        · rw [if_pos hrange] at hb
          by_cases hcond : ((ops[b - m.next]?.map isFloat).getD false && (W (b - m.next) && (S.getD (b - m.next) false && decide (i < b - m.next)))) = true
          · rw [if_pos hcond] at hb
            have hcond2 := hcond
            simp only [Bool.and_eq_true, decide_eq_true_eq] at hcond2
            obtain ⟨c1, c2, c3, c4⟩ := hcond2
            have hl' : b - m.next < ops.length := by omega
            have ho' : ops[b - m.next]? = some ops[b - m.next] := by simp [hl']
            rw [ho'] at c1
            simp only [Option.map_some, Option.getD_some] at c1
            obtain ⟨k', k1, k2⟩ := h.fl _ _ ho' c1 c2 c3 (by omega)
            rw [show m.next + (b - m.next) = b by omega] at k2
            rw [k2] at hb
            simp only [Option.some.injEq] at hb
            subst hb
            exact .inr ⟨b - m.next, _, ho', c1, c2, c3, c4, by omega, k2⟩
          · rw [if_neg hcond] at hb
            exact .inl hb
        · rw [if_neg hrange] at hb
          exact .inl hb
      have hsup := Went.sup (X' := X') hrel hsub hw' hx1 fun b k hb hd => by
        rcases hneg b k hb with h1 | ⟨i', o', a1, a2, a3, a4, a5, rfl, a6⟩
        · exact .inl h1
        · refine .inr ⟨by rw [hsub.1]; exact h.room i' o' a1 a2, ?_, hdead i' o' a1 a2 (by omega), a6⟩
          have := hr0.low
          omega
      have hdead' : ∀ i' o', ops[i']? = some o' → isFloat o' = true → i + 1 ≤ i' → ¬ live (M (i + 1)) (m.next + i') := fun i' o' h1 h2 h3 h4 => by
        have hroom := h.room i' o' h1 h2
        rw [← hsub.1] at hroom
        exact hdead i' o' h1 h2 (by omega) (hw'.none _ hroom h4)
      obtain ⟨g', g1, g2, g3, g4⟩ := h.frame_next cx hi hsup.ext hv
      refine hK _ _ (i + 1) ρ' g' X' ⟨by simp [h.size], closed_next h.size h.closed hi hr, Went.trans hr0 h.went hsup, g1, g2, g3, g4, by omega, fun j oj hj hcj hwj => ?_, .inr ⟨o, by simpa using hi, hch, by simpa using hw, by omega⟩, ⟨hx1.symm, fun b k hb hd => ?_⟩,
        fun j oj hj hf hwj hSj hcj => ?_, fun b k hb hd => ?_, fun j oj hj hf hn => ?_, hdead', fun j oj hj hf => ?_⟩
      · rw [inS_set hsz]
        rcases Nat.lt_trichotomy j i with hlt | heq | hgt
        · exact ⟨fun _ => by omega, fun _ => .inr (hbefore j oj hj hlt (.inl hcj))⟩
        · exact ⟨fun _ => by omega, fun _ => .inl heq⟩
        · exact ⟨fun hh => by
            rcases hh with hh | hh
            · omega
            · exact absurd hh (hbehind j oj hj hgt hcj), fun _ => by omega⟩
      · rw [hx2]
        by_cases hrange : m.next ≤ b ∧ b < m.next + ops.length
        · rw [if_pos hrange]
          by_cases hcond : ((ops[b - m.next]?.map isFloat).getD false && (W (b - m.next) && (S.getD (b - m.next) false && decide (i < b - m.next)))) = true
          · exfalso
            simp only [Bool.and_eq_true, decide_eq_true_eq] at hcond
            obtain ⟨c1, c2, c3, c4⟩ := hcond
            have hl' : b - m.next < ops.length := by omega
            have ho' : ops[b - m.next]? = some ops[b - m.next] := by simp [hl']
            rw [ho'] at c1
            simp only [Option.map_some, Option.getD_some] at c1
            refine hdead' _ _ ho' c1 (by omega) ⟨k, ?_, hd⟩
            rw [show m.next + (b - m.next) = b by omega]
            exact hb
          · rw [if_neg hcond]
            exact hb
        · rw [if_neg hrange]
          exact hb
      · have hSj' : inS S j := ((inS_set hsz j).1 hSj).resolve_left fun hh => by omega
        obtain ⟨k, k1, _, k3⟩ := hpos j oj hj hf hwj hSj' (by omega)
        exact ⟨k, k1, k3⟩
      · rcases hneg b k hb with h1 | ⟨i', o', a1, a2, a3, a4, a5, a6, _⟩
        · exact .inl h1
        · exact .inr ⟨i', o', a1, a2, a6⟩
      · rw [hsup.same _ (h.room j oj hj hf)]
        exact h.none j oj hj hf fun hh => hn ((inS_set hsz j).2 (.inr hh))
      · exact Nat.lt_of_lt_of_le (h.room j oj hj hf) hsup.next
    | float =>
      have hfo : isFloat o = true := by simp [isFloat, hk]
      obtain ⟨hV, k, hk0, hM⟩ := hstep.float hw hk
      have hρ := h.none i o hi hfo hS
      have hci : c ≤ i := by
        rcases h.cat with h0 | ⟨oc, h1, h2, h3, h4⟩
        · omega
        · have hin := (h.cin (c - 1) oc h1 h2 h3).2 (by omega)
          by_cases hlt : i < c - 1
          · rcases pair_spec (cx.ok.pair i (c - 1) o oc hi h1 hlt).1 with hp | ⟨hp, _⟩
            · exact absurd (h.mask cx ((List.getElem?_eq_some_iff.1 h1).1) hin hp) hS
            · exact absurd ⟨h2, .inr hfo⟩ hp
          · have : c - 1 ≠ i := fun heq => hS (heq ▸ hin)
            omega
      have hroom := h.room i o hi hfo
      have hdead := h.dead i o hi hfo hci
      -- whatever it is, it is laid into a block of its own
      have key : ∀ (ob : Obj) (v' : Value), BR P (ρ.with (m.next + i) ⟨w.heap.size, 0, 0⟩) k ⟨w.heap.size, 0, 0⟩ { w with heap := w.heap.push ob } → VR (ρ.with (m.next + i) ⟨w.heap.size, 0, 0⟩) (V i) v' → K (a.put o.dst v') { w with heap := w.heap.push ob } := fun ob v' hb hv => by
        have hgo := went_kept h.went (X' := { X with blks := X.blks.set (m.next + i) k }) (by omega) hroom hρ rfl (fun x => by simp only [Tr.get_set]) hb
        obtain ⟨g', g1, g2, g3, g4⟩ := h.frame_next cx hi (Ren.ext_with hρ) hv
        refine hK _ _ c _ g' { X with blks := X.blks.set (m.next + i) k } ⟨by simp [h.size], closed_next h.size h.closed hi hr, hgo, g1, g2, g3, g4, h.cle, fun j oj hj hcj hwj => ?_, h.cat, ⟨h.sub.1, fun b k' hb' hd => ?_⟩,
          fun j oj hj hf hwj hSj hcj => ?_, fun b k' hb' hd => ?_, fun j oj hj hf hn => ?_, h.dead, h.room⟩
        · rw [inS_set hsz, ← h.cin j oj hj hcj hwj]
          refine ⟨fun hh => hh.resolve_left fun hji => ?_, .inr⟩
          subst hji
          have : oj = o := Option.some.inj (hj.symm.trans hi)
          subst this
          rw [float_chain hcj] at hfo
          cases hfo
        · have hne : b ≠ m.next + i := fun he => hdead ⟨k', he ▸ hb', hd⟩
          simp only [Tr.get_set, if_neg hne]
          exact h.sub.2 b k' hb' hd
        · simp only [Tr.get_set]
          by_cases hji : j = i
          · subst hji
            have : oj = o := Option.some.inj (hj.symm.trans hi)
            subst this
            exact ⟨k, hk0, by rw [if_pos rfl]⟩
          · rw [if_neg (by omega)]
            exact h.fl j oj hj hf hwj (((inS_set hsz j).1 hSj).resolve_left hji) hcj
        · simp only [Tr.get_set] at hb'
          by_cases hbi : b = m.next + i
          · exact .inr ⟨i, o, hi, hfo, hbi⟩
          · rw [if_neg hbi] at hb'
            exact h.only b k' hb' hd
        · have hji : j ≠ i := fun hh => hn ((inS_set hsz j).2 (.inl hh))
          rw [Ren.with, if_neg (by omega)]
          exact h.none j oj hj hf fun hh => hn ((inS_set hsz j).2 (.inr hh))
      have hself : (ρ.with (m.next + i) ⟨w.heap.size, 0, 0⟩) (m.next + i) = some ⟨w.heap.size, 0, 0⟩ := by rw [Ren.with, if_pos rfl]
      rw [hV] at key
      unfold Oper.wp
      obtain ⟨dst, op, type, pos, after, guard⟩ := o
      unfold kindOf at hk
      cases op <;> first | (cases hk; done) | skip
      case alloc t =>
        simp only [fblkOf] at hk0
        split at hk0
        · rename_i z hz
          cases hk0
          have hrow : (newRow t z.cells).run P w = .ok ⟨w.heap.size, 0, none⟩ { w with heap := w.heap.push (.cells z.cells t) } := rfl
          simp only [execOp, Sem.run_bind, Instr.alloc, run_zero hz, newVar, hrow, Result.andThen_ok, Sem.run_pure, Oper.upon_value]
          refine key _ _ ⟨z.cells, by simp, by simp, fun j hj => ?_, rfl, fun hsu => by cases hsu⟩ (vr_ptr hself)
          rw [Tr.get_ofList, if_pos (by omega)]
          obtain ⟨v', hv', hvr⟩ := (vrl_closed (ρ.with (m.next + i) ⟨w.heap.size, 0, 0⟩) (closed_cells (zero_closed hz))).get (i := j) (v := z.cells.toList[j]) (by simp at hj; simp [hj])
          exact ⟨z.cells.toList[j], v', by simp at hj; simp [hj], by simpa using hv', hvr⟩
        · cases hk0
      case makeMap t r =>
        cases r with
        | some x => cases hk
        | none =>
          simp only [fblkOf] at hk0
          cases hk0
          have hnew : (newObj (.map #[] 0)).run P w = .ok w.heap.size { w with heap := w.heap.push (.map #[] 0) } := rfl
          simp only [execOp, Option.map_none, Sem.run_bind, Instr.makeMap, hnew, Result.andThen_ok, Sem.run_pure, Oper.upon_value]
          exact key _ _ ⟨rfl, .map #[] 0, by simp, .map .nil⟩ (.map hself)
      case call cl =>
        exfalso
        revert hk
        simp only
        split <;> (intro hk; cases hk)

/-- How many have not come up yet. -/
def left (S : Array Bool) : Nat := S.toList.count false

theorem left_set {S : Array Bool} {i : Nat} (hi : i < S.size) (h : ¬ inS S i) : left (S.setIfInBounds i true) + 1 = left S := by
  unfold left inS at *
  have hf : S[i] = false := by
    have : S.getD i false = S[i] := by simp [hi]
    rw [this] at h
    simpa using h
  have hf' : S.toList[i]'(by simpa using hi) = false := by simpa using hf
  have hpos : 0 < S.toList.count false := List.count_pos_iff.2 (hf' ▸ List.getElem_mem _)
  rw [Array.setIfInBounds, dif_pos hi, Array.toList_set, List.count_set (by simpa using hi), hf']
  rw [show (false == false) = true from rfl, show (true == false) = false from rfl, if_pos rfl, if_neg Bool.false_ne_true]
  omega

theorem drawn_all (hc : CallSound P base call) (hr0 : Rel P base ρ0 m w0) (cx : Cx P base call ops m fr0 M F V W C) {Q : Exit → Act → World → Prop}
    (hQ : ∀ a' ρ' w', Went P base ρ0 m w0 ρ' (M ops.length) w' → FR ρ' (F ops.length) a' → Q .normal a' w') : ∀ (n : Nat) (S : Array Bool) (a : Act) (w : World) (c : Nat) (ρ : Ren) (g : Fr) (X : Mem),
    Inv P base ops m fr0 M V W ρ0 w0 S a w c ρ g X → left S = n → wpAny P .any ops.toArray Q n S a w := by
  -- as long as one is left, one may come up
  have some' : ∀ (S : Array Bool), S.size = ops.length → ∀ (n i : Nat), i < n → i < ops.length → ¬ inS S i → Region.ready .any ops.toArray S ≠ [] := fun S hsize n => by
    induction n with
    | zero => intro i h; omega
    | succ n ih =>
      intro i hi hl hS hnil
      have ho : ops[i]? = some ops[i] := by simp [hl]
      by_cases hall : ∀ e ∈ ops[i].after, Region.binds .any e = true → inS S e.on
      · have : i ∈ Region.ready .any ops.toArray S := mem_ready.2 ⟨by
          have hi2 : i < S.size := by omega
          unfold inS at hS
          simp [hi2] at hS ⊢
          exact hS, ops[i], by simp, fun e he hb => hall e he hb⟩
        rw [hnil] at this
        cases this
      · simp only [Classical.not_forall] at hall
        obtain ⟨e, he, hb, hn⟩ := hall
        have hlt := cx.ok.back i _ ho e he hb
        exact ih e.on (by omega) (by omega) hn hnil
  intro n
  induction n with
  | zero =>
    intro S a w c ρ g X h hleft
    have hall : ∀ j, j < ops.length → inS S j := fun j hj => Classical.byContradiction fun hn => by
      have := left_set (by rw [h.size]; exact hj) hn
      omega
    refine ⟨List.eq_nil_iff_forall_not_mem.2 fun j hj => ?_, ?_⟩
    · obtain ⟨h1, o, h2, _⟩ := mem_ready.1 hj
      have hjl : j < ops.length := by
        have : ops[j]? = some o := by simpa using h2
        exact (List.getElem?_eq_some_iff.1 this).1
      have := hall j hjl
      unfold inS at this
      have hj2 : j < S.size := by rw [h.size]; exact hjl
      simp [hj2] at h1 this
      rw [h1] at this
      cases this
    · have hsub := h.sub_at cx h.cle (Nat.le_refl _) (fun k o hk h1 h2 h3 h4 => by
        have := (h.cin k o hk h3 h4).1 (hall k h2)
        omega) fun k o hk h1 _ _ => hall k h1
      obtain ⟨f1, f2, f3⟩ := cx.frame ops.length (Nat.le_refl _)
      refine hQ a ρ w (h.went.less hsub) ⟨h.fr.size.trans (h.gn.trans f1.symm), h.fr.defers, fun t => ?_⟩
      have hv := h.fr.val t
      have : ((F ops.length).tm.get t).getD undef = (g.tm.get t).getD undef := by
        by_cases hex : ∃ (j : Nat) (oj : Oper), ops[j]? = some oj ∧ oj.dst = some t
        · obtain ⟨j, oj, hj, hd⟩ := hex
          have hjl : j < ops.length := (List.getElem?_eq_some_iff.1 hj).1
          rw [f2 j oj t hj hjl hd, h.in_ j oj t hj (hall j hjl) hd]
        · rw [f3 t fun j oj hj _ hd => hex ⟨j, oj, hj, hd⟩, h.out t fun j oj hj _ hd => hex ⟨j, oj, hj, hd⟩]
      rw [this]
      exact hv
  | succ n ih =>
    intro S a w c ρ g X h hleft
    refine ⟨fun hnil => ?_, fun i hi => ?_⟩
    · exfalso
      have hpos : 0 < S.toList.count false := by unfold left at hleft; omega
      have hmem := List.count_pos_iff.1 hpos
      obtain ⟨j, hj, hjf⟩ := List.getElem_of_mem hmem
      have hjs : j < S.size := by simpa using hj
      refine some' S h.size (j + 1) j (Nat.lt_succ_self j) (by rw [← h.size]; exact hjs) ?_ hnil
      unfold inS
      simp at hjf
      simp [hjs, hjf]
    · obtain ⟨h1, o, h2, h3⟩ := mem_ready.1 hi
      have hio : ops[i]? = some o := by simpa using h2
      have hil : i < ops.length := (List.getElem?_eq_some_iff.1 hio).1
      have his : i < S.size := by rw [h.size]; exact hil
      have hS : ¬ inS S i := by
        unfold inS
        simp [his] at h1 ⊢
        exact h1
      refine inv_step hc hr0 cx h hio hS (fun e he hb => h3 e he hb) fun a' w' c' ρ' g' X' hI => ih _ _ _ _ _ _ _ hI ?_
      have := left_set his hS
      omega

end

theorem drawn_sound {P : Program} {base : Nat} {call : CallF} (hc : CallSound P base call) : DrawnSound P base call := by
  intro ops fr m fr' m' e ρ a w Q hr hf hQ
  obtain ⟨M, F, V, W, C, cx, rfl, rfl⟩ := evDrawn_cx e
  have hno : ∀ j, ¬ inS (Array.replicate ops.length false) j := fun j => by
    unfold inS
    by_cases hj : j < ops.length <;> simp [hj]
  have h0 : Inv P base ops m fr M V W ρ w (Array.replicate ops.length false) a w 0 ρ fr (M 0) := by
    refine ⟨by simp, fun j o _ h => absurd h (hno j), ⟨.refl ρ, ⟨fun b hb => hr.dom b (Nat.le_trans cx.m0.2.1 hb), fun b k hk hd => ?_, fun b k hk hd => ?_, fun b b' s s' hb hb' => ?_, hr.glob, Nat.le_trans hr.low cx.m0.2.1⟩, ⟨Nat.le_refl _, fun _ _ _ => rfl, rfl, rfl, rfl⟩, fun b s hb hl _ => ?_, cx.m0.2.1, fun b _ hl => ?_, fun _ _ => rfl⟩,
      hf, rfl, fun j o t _ h => absurd h (hno j), fun t _ => rfl, Nat.zero_le _, fun j o _ _ _ => ⟨fun h => absurd h (hno j), fun h => absurd h (by omega)⟩, .inl rfl, ⟨rfl, fun b k h _ => h⟩, fun j o _ _ _ h => absurd h (hno j), fun b k h _ => .inl h, fun j o hj hfl _ => ?_, fun j o hj hfl _ => ?_, fun j o hj hfl => ?_⟩
    · rw [cx.m0.1] at hk; exact Nat.lt_of_lt_of_le (hr.bnd b k hk hd) cx.m0.2.1
    · rw [cx.m0.1] at hk; exact hr.im b k hk hd
    · have c1 : ∀ b, live (M 0) b → live m b := fun b ⟨k, hk, hd⟩ => ⟨k, by rw [cx.m0.1] at hk; exact hk, hd⟩
      exact hr.inj b b' s s' (c1 b hb) (c1 b' hb')
    · obtain ⟨k, hk, hd⟩ := hl
      rw [cx.m0.1] at hk
      exact absurd (hr.bnd b k hk hd) (by omega)
    · obtain ⟨k, hk, hd⟩ := hl
      rw [cx.m0.1] at hk
      exact ⟨k, hk, hd⟩
    · exact hr.dom _ (Nat.le_add_right _ _)
    · rintro ⟨k, hk, hd⟩
      rw [cx.m0.1] at hk
      exact absurd (hr.bnd _ k hk hd) (by omega)
    · have := cx.m0.2.2 (any_float hj hfl)
      have hjl : j < ops.length := (List.getElem?_eq_some_iff.1 hj).1
      omega
  have := drawn_all hc hr cx hQ ops.length (Array.replicate ops.length false) a w 0 ρ fr (M 0) h0 (by simp [left])
  simpa using this

/-- **The evaluator is right.** -/
theorem ev_sound {P : Program} {base : Nat} (hm : P.follows .mixedOrders = true) (hng : ∀ (f : FuncId) (fn : Func), P.funcs[f]? = some fn → (fn.name == "runtime.NumGoroutine") = false) {special : CallF}
    (hs : CallSound P base special) (d : Nat) : CallSound P base (evCall P base special d) :=
  evCall_sound hm hng hs (fun _ hc => drawn_sound hc) d

theorem ev_calls {P : Program} {base : Nat} (hm : P.follows .mixedOrders = true) (hng : ∀ (f : FuncId) (fn : Func), P.funcs[f]? = some fn → (fn.name == "runtime.NumGoroutine") = false) {special : CallF}
    (hs : CallSound P base special) {d : Nat} {f : FuncId} {fn : Func} (hfn : P.funcs[f]? = some fn) {args : List Value} {m m' : Mem} {v : Value} (e : evFn P base (evCall P base special d) fn args m = some (v, m')) : CallsTo P base f args m v m' :=
  (evFn_sound hm (ev_sound hm hng hs d) (drawn_sound (ev_sound hm hng hs d)) hfn e).2

end Go.Ev
/-
  Calls that were reckoned before: a table of them.
-/
namespace Go.Ev

/-! ### blocks that are the same -/
def Same (k k' : Blk) : Prop :=
  match k, k' with
  | .cells c n t s, .cells c' n' t' s' => n = n' ∧ t = t' ∧ s = s' ∧ ∀ i, i < n → c.get i = c'.get i
  | .bytes c n t, .bytes c' n' t' => n = n' ∧ t = t' ∧ ∀ i, i < n → c.get i = c'.get i
  | .obj o, .obj o' => o = o'
  | .dead, .dead => True
  | _, _ => False

theorem BR.same {P : Program} {ρ : Ren} {k k' : Blk} {s : Slot} {w : World} (h : BR P ρ k s w) (hk : Same k k') : BR P ρ k' s w := by
  cases k <;> cases k' <;> simp only [Same] at hk
  · obtain ⟨rfl, rfl, rfl, hc⟩ := hk
    obtain ⟨cs, h1, h2, h3, h4⟩ := h
    exact ⟨cs, h1, h2, fun i hi => by rw [← hc i hi]; exact h3 i hi, h4⟩
  · obtain ⟨rfl, rfl, hc⟩ := hk
    obtain ⟨cs, h1, h2, h3⟩ := h
    exact ⟨cs, h1, fun i hi => by rw [← hc i hi]; exact h2 i hi, h3⟩
  · subst hk; exact h
  · exact h

theorem Same.symm {k k' : Blk} (h : Same k k') : Same k' k := by
  cases k <;> cases k' <;> simp only [Same] at h ⊢
  · obtain ⟨rfl, rfl, rfl, hc⟩ := h; exact ⟨rfl, rfl, rfl, fun i hi => (hc i hi).symm⟩
  · obtain ⟨rfl, rfl, hc⟩ := h; exact ⟨rfl, rfl, fun i hi => (hc i hi).symm⟩
  · exact h.symm
theorem Same.refl (k : Blk) : Same k k := by
  cases k <;> simp [Same]
theorem Same.live {k k' : Blk} (h : Same k k') (hd : k ≠ .dead) : k' ≠ .dead := by
  cases k <;> cases k' <;> simp only [Same] at h <;> simp at hd ⊢

/-- What went on at the little that was known goes on at all: 'X'' knows of each block the same as 'm'', or, where 'm' knew nothing, what 'X' knew. -/
theorem Went.supS {P : Program} {base : Nat} {ρ ρ' : Ren} {m m' X X' : Mem} {w w' : World} (h : Rel P base ρ X w) (hs1 : m.next = X.next) (hlv : ∀ {b : Nat}, live m b → live X b) (g : Went P base ρ m w ρ' m' w') (hn : X'.next = m'.next)
    (hx : ∀ b k, X'.blks.get b = some k → k ≠ .dead → (∃ k', m'.blks.get b = some k' ∧ k' ≠ .dead ∧ Same k' k) ∨ (b < m.next ∧ base ≤ b ∧ ¬ live m b ∧ X.blks.get b = some k)) : Went P base ρ X w ρ' X' w' := by
  have old : ∀ b k, base ≤ b → ¬ live m b → X.blks.get b = some k → k ≠ .dead → ∃ s, ρ b = some s ∧ ρ' b = some s ∧ s.blk < w.heap.size ∧ w'.heap[s.blk]? = w.heap[s.blk]? ∧ BR P ρ k s w := fun b k hb hl hk hd => by
    obtain ⟨s, hs1, hbr⟩ := h.im b k hk hd
    have key : s.blk < w.heap.size := by
      cases k with
      | cells c n t z => obtain ⟨cs, h1, _⟩ := hbr; exact (Array.getElem?_eq_some_iff.1 h1).1
      | bytes c n t => obtain ⟨cs, h1, _⟩ := hbr; exact (Array.getElem?_eq_some_iff.1 h1).1
      | obj o => obtain ⟨_, o', h1, _⟩ := hbr; exact (Array.getElem?_eq_some_iff.1 h1).1
      | dead => exact absurd rfl hd
    refine ⟨s, hs1, g.ext b s hs1, key, g.kept.heap _ key fun b1 s1 hb1 hl1 hs2 he => ?_, hbr⟩
    have := h.inj b1 b s1 s (hlv hl1) ⟨k, hk, hd⟩ hs2 hs1 he
    exact hl (this ▸ hl1)
  -- what is live at the end: known to 'm'', or left alone
  have cases' : ∀ b, live X' b → live m' b ∨ (b < m.next ∧ base ≤ b ∧ ¬ live m b ∧ live X b) := fun b ⟨k, hk, hd⟩ => by
    rcases hx b k hk hd with h1 | ⟨h1, h2, h3, h4⟩
    · obtain ⟨k', h1, h2, _⟩ := h1; exact .inl ⟨k', h1, h2⟩
    · exact .inr ⟨h1, h2, h3, k, h4, hd⟩
  have apart : ∀ b b' s s', live m' b → (base ≤ b' ∧ ¬ live m b' ∧ live X b') → ρ' b = some s → ρ' b' = some s' → s.blk = s'.blk → b = b' := fun b b' s s' hb ⟨hb0, hb1, k, hk, hd⟩ h1 h2 he => by
    obtain ⟨t, t1, t2, t3, t4, t5⟩ := old b' k hb0 hb1 hk hd
    have : t = s' := Option.some.inj (t2.symm.trans h2)
    subst this
    by_cases hbn : b < m.next
    · have hl := g.none b hbn hb
      obtain ⟨s1, hs1⟩ := live_im h (hlv hl)
      have : s1 = s := Option.some.inj ((g.ext b s1 hs1).symm.trans h1)
      subst this
      exact h.inj b b' s1 t (hlv hl) ⟨k, hk, hd⟩ hs1 t1 he
    · rcases g.fresh b s (by omega) hb h1 with h3 | ⟨b0, s0, q1, q2, q3, q4⟩
      · omega
      · have := h.inj b0 b' s0 t (hlv q2) ⟨k, hk, hd⟩ q3 t1 (q4.trans he)
        exact absurd (this ▸ q2) hb1
  refine ⟨g.ext, ⟨fun b hb => g.rel.dom b (hn ▸ hb), fun b k hk hd => ?_, fun b k hk hd => ?_, fun b b' s s' hb hb' h1 h2 he => ?_, g.rel.glob, hn ▸ g.rel.low⟩, ⟨g.kept.size, fun c hc hno => g.kept.heap c hc fun b s hb hl => hno b s hb (hlv hl), g.kept.os, g.kept.out, g.kept.tape⟩, fun b s hb hl h1 => ?_, by rw [hn, ← hs1]; exact g.next, fun b hb hl => ?_, fun b hb => g.same b (hs1 ▸ hb)⟩
  · rcases hx b k hk hd with h1 | ⟨h1, _⟩
    · obtain ⟨k', h1, h2, _⟩ := h1; exact hn ▸ g.rel.bnd b k' h1 h2
    · rw [hn]; exact Nat.lt_of_lt_of_le h1 g.next
  · rcases hx b k hk hd with h1 | ⟨h0, h1, h2, h3⟩
    · obtain ⟨k', h1, h2, h3⟩ := h1
      obtain ⟨s, q1, q2⟩ := g.rel.im b k' h1 h2
      exact ⟨s, q1, q2.same h3⟩
    · obtain ⟨t, t1, t2, t3, t4, t5⟩ := old b k h1 h2 h3 hd
      exact ⟨t, t2, t5.mono g.ext t4⟩
  · rcases cases' b hb with c1 | ⟨c0, c1⟩ <;> rcases cases' b' hb' with d1 | ⟨d0, d1⟩
    · exact g.rel.inj b b' s s' c1 d1 h1 h2 he
    · exact apart b b' s s' c1 d1 h1 h2 he
    · exact (apart b' b s' s d1 c1 h2 h1 he.symm).symm
    · obtain ⟨c2, c3, k, c4, c5⟩ := c1
      obtain ⟨d2, d3, k', d4, d5⟩ := d1
      obtain ⟨t, t1, t2, _⟩ := old b k c2 c3 c4 c5
      obtain ⟨u, u1, u2, _⟩ := old b' k' d2 d3 d4 d5
      have e1 : t = s := Option.some.inj (t2.symm.trans h1)
      have e2 : u = s' := Option.some.inj (u2.symm.trans h2)
      subst e1; subst e2
      exact h.inj b b' t u ⟨k, c4, c5⟩ ⟨k', d4, d5⟩ t1 u1 he
  · rcases cases' b hl with c1 | ⟨c0, c1⟩
    · rcases g.fresh b s (hs1 ▸ hb) c1 h1 with h3 | ⟨b0, s0, q1, q2, q3, q4⟩
      · exact .inl h3
      · exact .inr ⟨b0, s0, q1, hlv q2, q3, q4⟩
    · rw [hs1] at c0; omega
  · rcases cases' b hl with c1 | ⟨c0, c1, c2, c3⟩
    · exact hlv (g.none b (hs1 ▸ hb) c1)
    · exact c3

theorem Rel.same {P : Program} {base : Nat} {ρ : Ren} {m X : Mem} {w : World} (h : Rel P base ρ X w) (hn : m.next = X.next) (hs : ∀ b k, m.blks.get b = some k → k ≠ .dead → ∃ k', X.blks.get b = some k' ∧ Same k' k) : Rel P base ρ m w := by
  have hl : ∀ b, live m b → live X b := fun b ⟨k, hk, hd⟩ => by
    obtain ⟨k', h1, h2⟩ := hs b k hk hd
    exact ⟨k', h1, h2.symm.live hd⟩
  refine ⟨fun b hb => h.dom b (hn ▸ hb), fun b k hk hd => ?_, fun b k hk hd => ?_, fun b b' s s' hb hb' => h.inj b b' s s' (hl b hb) (hl b' hb'), h.glob, hn ▸ h.low⟩
  · rw [hn]; exact live_lt h (hl b ⟨k, hk, hd⟩)
  · obtain ⟨k', h1, h2⟩ := hs b k hk hd
    obtain ⟨s, h3, h4⟩ := h.im b k' h1 (h2.symm.live hd)
    exact ⟨s, h3, h4.same h2⟩

end Go.Ev
/-
  The evaluator again, in words that the kernel runs fast; each is the elder one.
-/
namespace Go.Ev.X
noncomputable section

section
variable {α : Type}

/-! ### tries -/
theorem put_fuel : ∀ (f f' : Nat) (t : Tr α) (i : Nat) (x : α), i < f → i < f' → Tr.put f t i x = Tr.put f' t i x
  | 0, _, _, _, _, h, _ => absurd h (by omega)
  | _, 0, _, _, _, _, h => absurd h (by omega)
  | f + 1, f' + 1, .e, 0, x, _, _ => rfl
  | f + 1, f' + 1, .n l v r, 0, x, _, _ => rfl
  | f + 1, f' + 1, .e, j + 1, x, h, h' => by
    simp only [Tr.put]
    rw [put_fuel f f' .e (j / 2) x (by omega) (by omega)]
  | f + 1, f' + 1, .n l v r, j + 1, x, h, h' => by
    simp only [Tr.put]
    rw [put_fuel f f' l (j / 2) x (by omega) (by omega), put_fuel f f' r (j / 2) x (by omega) (by omega)]

def get (t : Tr α) : Nat → Option α :=
  @Tr.rec α (fun _ => Nat → Option α) (fun _ => none) (fun _ v _ L R i =>
    @Nat.rec (fun _ => Option α) v (fun j _ => @Bool.rec (fun _ => Option α) (R (Nat.div j 2)) (L (Nat.div j 2)) (Nat.beq (Nat.mod j 2) 0)) i) t

theorem get_eq : ∀ (t : Tr α) (i : Nat), get t i = t.get i
  | .e, _ => rfl
  | .n l v r, 0 => rfl
  | .n l v r, j + 1 => by
    show @Bool.rec (fun _ => Option α) (get r (j / 2)) (get l (j / 2)) (Nat.beq (j % 2) 0) = _
    simp only [Tr.get]
    cases Nat.beq (j % 2) 0
    · exact get_eq r _
    · exact get_eq l _

def one (x : α) (f : Nat) : Nat → Tr α :=
  @Nat.rec (fun _ => Nat → Tr α) (fun _ => .e) (fun _ ih i => @Nat.rec (fun _ => Tr α) (.n .e (some x) .e) (fun j _ =>
    @Bool.rec (fun _ => Tr α) (.n .e none (ih (Nat.div j 2))) (.n (ih (Nat.div j 2)) none .e) (Nat.beq (Nat.mod j 2) 0)) i) f

theorem one_eq (x : α) : ∀ (f i : Nat), one x f i = Tr.put f .e i x
  | 0, _ => rfl
  | f + 1, 0 => rfl
  | f + 1, j + 1 => by
    show @Bool.rec (fun _ => Tr α) (.n .e none (one x f (j / 2))) (.n (one x f (j / 2)) none .e) (Nat.beq (j % 2) 0) = _
    simp only [Tr.put, one_eq x f (j / 2)]
    cases Nat.beq (j % 2) 0 <;> rfl

def ins (x : α) (t : Tr α) : Nat → Tr α :=
  @Tr.rec α (fun _ => Nat → Tr α) (fun i => one x (Nat.succ i) i) (fun l v r L R i =>
    @Nat.rec (fun _ => Tr α) (.n l (some x) r) (fun j _ => @Bool.rec (fun _ => Tr α) (.n l v (R (Nat.div j 2))) (.n (L (Nat.div j 2)) v r) (Nat.beq (Nat.mod j 2) 0)) i) t

theorem ins_eq (x : α) : ∀ (t : Tr α) (i : Nat), ins x t i = t.set i x
  | .e, i => one_eq x (i + 1) i
  | .n l v r, 0 => rfl
  | .n l v r, j + 1 => by
    show @Bool.rec (fun _ => Tr α) (.n l v (ins x r (j / 2))) (.n (ins x l (j / 2)) v r) (Nat.beq (j % 2) 0) = _
    have h : (Tr.n l v r).set (j + 1) x = (match Nat.beq (j % 2) 0 with | true => .n (Tr.put (j + 1) l (j / 2) x) v r | false => .n l v (Tr.put (j + 1) r (j / 2) x)) := rfl
    rw [h, ins_eq x l, ins_eq x r]
    rw [put_fuel (j + 1) (j / 2 + 1) l (j / 2) x (by omega) (by omega), put_fuel (j + 1) (j / 2 + 1) r (j / 2) x (by omega) (by omega)]
    cases Nat.beq (j % 2) 0 <;> rfl
end

/-! ### frames -/
def put (fr : Fr) (d : Option Tmp) (v : Value) : Option Fr :=
  @Option.rec Tmp (fun _ => Option Fr) (some fr) (fun t => @Fr.rec (fun _ => Option Fr) (fun tm n => @Bool.rec (fun _ => Option Fr) none (some ⟨ins v tm t, n⟩) (Nat.ble (Nat.succ t) n)) fr) d

theorem ble_ite {β : Type} (a b : Nat) (x y : β) : @Bool.rec (fun _ => β) y x (Nat.ble a b) = if a ≤ b then x else y := by
  cases h : Nat.ble a b with
  | true => rw [if_pos (Nat.le_of_ble_eq_true h)]
  | false => rw [if_neg fun h' => by rw [Nat.ble_eq_true_of_le h'] at h; cases h]

theorem put_eq (fr : Fr) (d : Option Tmp) (v : Value) : put fr d v = fr.put d v := by
  cases d with
  | none => rfl
  | some t =>
    obtain ⟨tm, n⟩ := fr
    show @Bool.rec (fun _ => Option Fr) none (some ⟨ins v tm t, n⟩) (Nat.ble (t + 1) n) = _
    rw [ble_ite, ins_eq]
    rfl

def val (fr : Fr) (base : Nat) (x : Operand) : Option Value :=
  @Operand.rec (fun _ => Option Value) (fun t => @Fr.rec (fun _ => Option Value) (fun tm _ => @Option.rec Value (fun _ => Option Value) (some (.tuple #[])) (fun v => some v) (get tm t)) fr)
    (fun v => @Bool.rec (fun _ => Option Value) none (some v) (closed v)) (fun g => @Bool.rec (fun _ => Option Value) none (some (.pointer (some ⟨g, 0, none⟩))) (Nat.ble (Nat.succ g) base)) (fun f => some (.func (.func f) #[] #[])) x

theorem bool_ite {β : Type} (b : Bool) (x y : β) : @Bool.rec (fun _ => β) y x b = if b = true then x else y := by cases b <;> rfl

theorem val_eq (fr : Fr) (base : Nat) (x : Operand) : val fr base x = fr.val base x := by
  cases x with
  | tmp t =>
    obtain ⟨tm, n⟩ := fr
    show @Option.rec Value (fun _ => Option Value) (some (.tuple #[])) (fun v => some v) (get tm t) = some ((tm.get t).getD (.tuple #[]))
    rw [get_eq]
    cases tm.get t <;> rfl
  | const v => exact bool_ite (closed v) _ _
  | global g => exact ble_ite (g + 1) base _ _
  | func f => rfl

def vals (fr : Fr) (base : Nat) (l : List Operand) : Option (List Value) :=
  @List.rec Operand (fun _ => Option (List Value)) (some []) (fun x _ ih => @Option.rec Value (fun _ => Option (List Value)) none (fun v => @Option.rec (List Value) (fun _ => Option (List Value)) none (fun vs => some (v :: vs)) ih) (val fr base x)) l

theorem vals_eq (fr : Fr) (base : Nat) : ∀ l, vals fr base l = Ev.vals fr base l
  | [] => rfl
  | x :: l => by
    show @Option.rec Value (fun _ => Option (List Value)) none (fun v => @Option.rec (List Value) (fun _ => Option (List Value)) none (fun vs => some (v :: vs)) (vals fr base l)) (val fr base x) = _
    rw [vals_eq fr base l, val_eq]
    simp only [Ev.vals]
    cases fr.val base x with
    | none => rfl
    | some v => cases Ev.vals fr base l <;> rfl

/-! ### memory -/
def wr (m : Mem) (b : Nat) (k : Blk) : Mem := @Mem.rec (fun _ => Mem) (fun t n => ⟨ins k t b, n⟩) m
theorem wr_eq (m : Mem) (b : Nat) (k : Blk) : wr m b k = m.wr b k := by
  obtain ⟨t, n⟩ := m
  show Mem.mk (ins k t b) n = _
  rw [ins_eq]; rfl

def new (m : Mem) (k : Blk) : Mem := @Mem.rec (fun _ => Mem) (fun t n => ⟨ins k t n, Nat.succ n⟩) m
theorem new_eq (m : Mem) (k : Blk) : new m k = m.new k := by
  obtain ⟨t, n⟩ := m
  show Mem.mk (ins k t n) (n + 1) = _
  rw [ins_eq]; rfl

def blk (m : Mem) (b : Nat) : Option Blk := @Mem.rec (fun _ => Option Blk) (fun t _ => get t b) m
theorem blk_eq (m : Mem) (b : Nat) : blk m b = m.blks.get b := by
  obtain ⟨t, n⟩ := m
  exact get_eq t b

def cell (m : Mem) (b i : Nat) : Option Value :=
  @Option.rec Blk (fun _ => Option Value) none (fun k => @Blk.rec (fun _ => Option Value) (fun c n _ _ => @Bool.rec (fun _ => Option Value) none (get c i) (Nat.ble (Nat.succ i) n)) (fun c n _ => @Bool.rec (fun _ => Option Value) none (@Option.rec Nat (fun _ => Option Value) none (fun k => some (.int .u8 (.ofNat k))) (get c i)) (Nat.ble (Nat.succ i) n)) (fun _ => none) none k) (blk m b)
theorem cell_eq (m : Mem) (b i : Nat) : cell m b i = m.cell b i := by
  unfold cell Mem.cell
  rw [blk_eq]
  cases m.blks.get b with
  | none => rfl
  | some k => cases k with
    | cells c n t s =>
      show @Bool.rec (fun _ => Option Value) none (get c i) (Nat.ble (i + 1) n) = _
      rw [ble_ite, get_eq]
      rfl
    | bytes c n t =>
      show @Bool.rec (fun _ => Option Value) none (@Option.rec Nat (fun _ => Option Value) none (fun k => some (.int .u8 (.ofNat k))) (get c i)) (Nat.ble (i + 1) n) = _
      rw [ble_ite, get_eq]
      simp only
      cases c.get i <;> rfl
    | obj o => rfl
    | dead => rfl

def loadN (m : Mem) (b : Nat) (i k : Nat) : Option (List Value) :=
  @Nat.rec (fun _ => Nat → Option (List Value)) (fun _ => some []) (fun _ ih i => @Option.rec Value (fun _ => Option (List Value)) none (fun v => @Option.rec (List Value) (fun _ => Option (List Value)) none (fun l => some (v :: l)) (ih (Nat.succ i))) (cell m b i)) k i
theorem loadN_eq (m : Mem) (b : Nat) : ∀ k i, loadN m b i k = m.loadN b i k
  | 0, i => rfl
  | k + 1, i => by
    show @Option.rec Value (fun _ => Option (List Value)) none (fun v => @Option.rec (List Value) (fun _ => Option (List Value)) none (fun l => some (v :: l)) (loadN m b (i + 1) k)) (cell m b i) = _
    rw [loadN_eq m b k, cell_eq]
    simp only [Mem.loadN]
    cases m.cell b i with
    | none => rfl
    | some v => cases m.loadN b (i + 1) k <;> rfl

def setN (c : Tr Value) (i : Nat) (l : List Value) : Tr Value :=
  @List.rec Value (fun _ => Tr Value → Nat → Tr Value) (fun c _ => c) (fun v _ ih c i => ih (ins v c i) (Nat.succ i)) l c i
theorem setN_eq : ∀ (l : List Value) (c : Tr Value) (i : Nat), setN c i l = Ev.setN c i l
  | [], _, _ => rfl
  | v :: l, c, i => by
    show setN (ins v c i) (i + 1) l = _
    rw [setN_eq l, ins_eq]; rfl

/-- What an address says, where it is one. -/
def ptr (v : Value) : Option Addr := match v with | .pointer (some a) => some a | _ => none

def load (P : Program) (t : TypeId) (m : Mem) (v : Value) : Option Value :=
  @Option.rec Addr (fun _ => Option Value) none (fun a => @Addr.rec (fun _ => Option Value) (fun b o sp => @Option.rec Nat (fun _ => Option Value)
    (@Option.rec Bool (fun _ => Option Value) none (fun ag => @Bool.rec (fun _ => Option Value) (cell m b o) (@Option.rec Nat (fun _ => Option Value) none (fun n => @Option.rec (List Value) (fun _ => Option Value) none (fun l => some (.agg l.toArray)) (loadN m b o n)) (sizeB P t)) ag) (aggB P t))
    (fun _ => none) sp) a) (ptr v)
theorem load_eq (P : Program) (t : TypeId) (m : Mem) (v : Value) : load P t m v = evLoad P t m v := by
  unfold load evLoad ptr
  split
  · rename_i a
    obtain ⟨b, o, sp⟩ := a
    cases sp with
    | some _ => rfl
    | none =>
      cases aggB P t with
      | none => rfl
      | some ag => cases ag with
        | false => exact cell_eq m b o
        | true => cases sizeB P t with
          | none => rfl
          | some n =>
            show @Option.rec (List Value) (fun _ => Option Value) none (fun l => some (.agg l.toArray)) (loadN m b o n) = _
            rw [loadN_eq]
            simp only
            cases m.loadN b o n <;> rfl
  · rename_i hne
    split
    · rename_i a; exact absurd rfl (hne a)
    · rfl

def storeN (base : Nat) (m : Mem) (b i : Nat) (l : List Value) : Option Mem :=
  @Bool.rec (fun _ => Option Mem) (@Option.rec Blk (fun _ => Option Mem) none (fun k => @Blk.rec (fun _ => Option Mem) (fun c n t s => @Bool.rec (fun _ => Option Mem) none (@Bool.rec (fun _ => Option Mem) none (some (wr m b (.cells (setN c i l) n t s))) (l.all flat)) (Nat.ble (Nat.add i l.length) n)) (fun _ _ _ => none) (fun _ => none) none k) (blk m b)) none (Nat.ble (Nat.succ b) base)
theorem storeN_eq (base : Nat) (m : Mem) (b i : Nat) (l : List Value) : storeN base m b i l = m.storeN base b i l := by
  unfold storeN Mem.storeN
  rw [ble_ite, blk_eq]
  show (if b < base then none else _) = _
  split
  · rfl
  · cases m.blks.get b with
    | none => rfl
    | some k => cases k with
      | cells c n t s =>
        show @Bool.rec (fun _ => Option Mem) none (@Bool.rec (fun _ => Option Mem) none (some (wr m b (.cells (setN c i l) n t s))) (l.all flat)) (Nat.ble (i + l.length) n) = _
        rw [ble_ite, bool_ite, wr_eq, setN_eq]
        simp only
        by_cases h1 : i + l.length ≤ n
        · by_cases h2 : l.all flat = true
          · rw [if_pos h1, if_pos h2, if_pos ⟨h1, h2⟩]
          · rw [if_pos h1, if_neg h2, if_neg fun h => h2 h.2]
        · rw [if_neg h1, if_neg fun h => h1 h.1]
      | bytes c n t => rfl
      | obj o => rfl
      | dead => rfl

def store (P : Program) (base : Nat) (t : TypeId) (m : Mem) (addr v : Value) : Option Mem :=
  @Option.rec Addr (fun _ => Option Mem) none (fun a => @Addr.rec (fun _ => Option Mem) (fun b o sp => @Option.rec Nat (fun _ => Option Mem)
    (@Option.rec Nat (fun _ => Option Mem) none (fun n => @Bool.rec (fun _ => Option Mem) none (storeN base m b o v.cells.toList) (Nat.beq v.cells.size n)) (sizeB P t))
    (fun _ => none) sp) a) (ptr addr)
theorem beq_ite {β : Type} (a b : Nat) (x y : β) : @Bool.rec (fun _ => β) y x (Nat.beq a b) = if a = b then x else y := by
  cases h : Nat.beq a b with
  | true => rw [if_pos (Nat.eq_of_beq_eq_true h)]
  | false => rw [if_neg (Nat.ne_of_beq_eq_false h)]
theorem store_eq (P : Program) (base : Nat) (t : TypeId) (m : Mem) (addr v : Value) : store P base t m addr v = evStore P base t m addr v := by
  unfold store evStore ptr
  split
  · rename_i a
    obtain ⟨b, o, sp⟩ := a
    cases sp with
    | some _ => rfl
    | none =>
      cases sizeB P t with
      | none => rfl
      | some n =>
        show @Bool.rec (fun _ => Option Mem) none (storeN base m b o v.cells.toList) (Nat.beq v.cells.size n) = _
        rw [beq_ite, storeN_eq]
  · rename_i hne
    split
    · rename_i a; exact absurd rfl (hne a)
    · rfl

end
end Go.Ev.X
/-
  Arithmetic on small numbers, in words that the kernel runs fast.
-/
namespace Go.Ev.X

def lb (k : IntKind) : Nat := match k with | .i8 => 7 | .i16 => 15 | .i32 => 31 | .i64 => 63 | .u8 => 8 | .u16 => 16 | .u32 => 32 | .u64 => 64

noncomputable section
/-- What a kind holds, from 0 on. -/
def lim (k : IntKind) : Nat := @IntKind.rec (fun _ => Nat) 128 32768 2147483648 9223372036854775808 256 65536 4294967296 18446744073709551616 k
def wid (k : IntKind) : Nat := @IntKind.rec (fun _ => Nat) 8 16 32 64 8 16 32 64 k
def kn (k : IntKind) : Nat := @IntKind.rec (fun _ => Nat) 0 1 2 3 4 5 6 7 k

theorem lim_eq (k : IntKind) : lim k = 2 ^ lb k := by cases k <;> rfl
theorem wid_eq (k : IntKind) : wid k = k.bits := by cases k <;> rfl
theorem kn_eq {k k' : IntKind} (h : Nat.beq (kn k) (kn k') = true) : k = k' := by cases k <;> cases k' <;> first | rfl | (exact absurd h (by decide))
theorem wrap_small {k : IntKind} {n : Nat} (h : n < lim k) : k.wrap (n : Int) = n := by
  cases k <;> (simp only [lim] at h; simp [IntKind.wrap, IntKind.bits, IntKind.signed]; omega)

abbrev NF := IntKind → Nat → Nat → Option Value
def ifv (c : Bool) (v : Value) : Option Value := @Bool.rec (fun _ => Option Value) none (some v) c
def nAdd : NF := fun k a b => ifv (Nat.ble (Nat.succ (Nat.add a b)) (lim k)) (.int k (.ofNat (Nat.add a b)))
def nSub : NF := fun k a b => @Bool.rec (fun _ => Option Value) none (ifv (Nat.ble (Nat.succ a) (lim k)) (.int k (.ofNat (Nat.sub a b)))) (Nat.ble b a)
def nMul : NF := fun k a b => ifv (Nat.ble (Nat.succ (Nat.mul a b)) (lim k)) (.int k (.ofNat (Nat.mul a b)))
def nQuo : NF := fun k a b => @Bool.rec (fun _ => Option Value) (ifv (Nat.ble (Nat.succ a) (lim k)) (.int k (.ofNat (Nat.div a b)))) none (Nat.beq b 0)
def nRem : NF := fun k a b => ifv (Nat.ble 1 b) (.int k (.ofNat (Nat.mod a b)))
def two (k : IntKind) (a b : Nat) (v : Value) : Option Value := @Bool.rec (fun _ => Option Value) none (ifv (Nat.ble (Nat.succ b) (lim k)) v) (Nat.ble (Nat.succ a) (lim k))
def nAnd : NF := fun k a b => two k a b (.int k (.ofNat (Nat.land a b)))
def nOr : NF := fun k a b => two k a b (.int k (.ofNat (Nat.lor a b)))
def nXor : NF := fun k a b => two k a b (.int k (.ofNat (Nat.xor a b)))
def nShl : NF := fun k a b => @Bool.rec (fun _ => Option Value) none (ifv (Nat.ble (Nat.succ (Nat.mul a (Nat.pow 2 b))) (lim k)) (.int k (.ofNat (Nat.mul a (Nat.pow 2 b))))) (Nat.ble b (wid k))
def nShr : NF := fun k a b => ifv (Nat.ble b (wid k)) (.int k (.ofNat (Nat.div a (Nat.pow 2 b))))
def nNone : NF := fun _ _ _ => none
def nEql : NF := fun _ a b => some (.bool (Nat.beq a b))
def nNeq : NF := fun _ a b => some (.bool (@Bool.rec (fun _ => Bool) true false (Nat.beq a b)))
def nLss : NF := fun _ a b => some (.bool (Nat.ble (Nat.succ a) b))
def nLeq : NF := fun _ a b => some (.bool (Nat.ble a b))
def nGtr : NF := fun _ a b => some (.bool (Nat.ble (Nat.succ b) a))
def nGeq : NF := fun _ a b => some (.bool (Nat.ble b a))
def natBin (op : BinOp) : NF := @BinOp.rec (fun _ => NF) nAdd nSub nMul nQuo nRem nAnd nOr nXor nShl nShr nNone nEql nNeq nLss nLeq nGtr nGeq op

theorem ifv_some {c : Bool} {v r : Value} (h : ifv c v = some r) : c = true ∧ r = v := by
  cases c
  · cases h
  · cases h; exact ⟨rfl, rfl⟩
theorem ble_le {a b : Nat} (h : Nat.ble a b = true) : a ≤ b := Nat.le_of_ble_eq_true h
theorem two_some {k : IntKind} {a b : Nat} {v r : Value} (h : two k a b v = some r) : a < lim k ∧ b < lim k ∧ r = v := by
  unfold two at h
  cases h1 : Nat.ble (Nat.succ a) (lim k) with
  | false => rw [h1] at h; cases h
  | true =>
    rw [h1] at h
    obtain ⟨h2, rfl⟩ := ifv_some h
    exact ⟨ble_le h1, ble_le h2, rfl⟩

theorem ofInt_nat {w n : Nat} (h : n < 2 ^ w) : (BitVec.ofInt w (n : Int)).toNat = n := by
  rw [BitVec.ofInt_natCast, BitVec.toNat_ofNat, Nat.mod_eq_of_lt h]
theorem lim_le (k : IntKind) : lim k ≤ 2 ^ k.bits := by cases k <;> simp [lim, IntKind.bits]

theorem natBin_sound {op : BinOp} {k k' : IntKind} {a b : Nat} {v : Value} (hk : k = k') (h : natBin op k a b = some v) (t : TypeId) :
    binOp op t (.int k (.ofNat a)) (.int k' (.ofNat b)) = pure v ∧ closed v = true := by
  subst hk
  cases op
  case add =>
    obtain ⟨h1, rfl⟩ := ifv_some h
    refine ⟨?_, rfl⟩
    have := wrap_small (k := k) (n := a + b) (ble_le h1)
    simp only [binOp, ne_eq, not_true_eq_false, if_false, Op.intArith]
    congr 2
  case sub =>
    simp only [natBin, nSub] at h
    cases h1 : Nat.ble b a with
    | false => rw [h1] at h; cases h
    | true =>
      rw [h1] at h
      obtain ⟨h2, rfl⟩ := ifv_some h
      refine ⟨?_, rfl⟩
      have hb := ble_le h1
      have := wrap_small (k := k) (n := a - b) (by have := ble_le h2; omega)
      simp only [binOp, ne_eq, not_true_eq_false, if_false, Op.intArith]
      rw [show (Int.ofNat a - Int.ofNat b) = ((a - b : Nat) : Int) by simp only [Int.ofNat_eq_natCast]; omega, this]
      rfl
  case mul =>
    obtain ⟨h1, rfl⟩ := ifv_some h
    refine ⟨?_, rfl⟩
    have := wrap_small (k := k) (n := a * b) (ble_le h1)
    simp only [binOp, ne_eq, not_true_eq_false, if_false, Op.intArith]
    congr 2
  case quo =>
    simp only [natBin, nQuo] at h
    cases h1 : Nat.beq b 0 with
    | true => rw [h1] at h; cases h
    | false =>
      rw [h1] at h
      obtain ⟨h2, rfl⟩ := ifv_some h
      refine ⟨?_, rfl⟩
      have hb : b ≠ 0 := Nat.ne_of_beq_eq_false h1
      have := wrap_small (k := k) (n := a / b) (by have := ble_le h2; have := Nat.div_le_self a b; omega)
      have hb' : ¬ (Int.ofNat b = 0) := by simp only [Int.ofNat_eq_natCast]; omega
      simp only [binOp, ne_eq, not_true_eq_false, if_false, Op.intDiv, hb']
      rw [show (Int.ofNat a).tdiv (Int.ofNat b) = ((a / b : Nat) : Int) from rfl, this]
      rfl
  case rem =>
    obtain ⟨h1, rfl⟩ := ifv_some h
    refine ⟨?_, rfl⟩
    have hb := ble_le h1
    have hb' : ¬ (Int.ofNat b = 0) := by simp only [Int.ofNat_eq_natCast]; omega
    simp only [binOp, ne_eq, not_true_eq_false, if_false, Op.intDiv, hb']
    rfl
  case and =>
    obtain ⟨h1, h2, rfl⟩ := two_some h
    refine ⟨?_, rfl⟩
    simp only [binOp, ne_eq, not_true_eq_false, if_false, Op.intBits]
    rw [BitVec.toNat_and]
    simp only [Int.ofNat_eq_natCast]
    rw [ofInt_nat (Nat.lt_of_lt_of_le h1 (lim_le k)), ofInt_nat (Nat.lt_of_lt_of_le h2 (lim_le k)), wrap_small (k := k) (by rw [lim_eq] at h2 ⊢; exact Nat.and_lt_two_pow _ h2)]
    rfl
  case or =>
    obtain ⟨h1, h2, rfl⟩ := two_some h
    refine ⟨?_, rfl⟩
    simp only [binOp, ne_eq, not_true_eq_false, if_false, Op.intBits]
    rw [BitVec.toNat_or]
    simp only [Int.ofNat_eq_natCast]
    rw [ofInt_nat (Nat.lt_of_lt_of_le h1 (lim_le k)), ofInt_nat (Nat.lt_of_lt_of_le h2 (lim_le k)), wrap_small (k := k) (by rw [lim_eq] at h1 h2 ⊢; exact Nat.or_lt_two_pow h1 h2)]
    rfl
  case xor =>
    obtain ⟨h1, h2, rfl⟩ := two_some h
    refine ⟨?_, rfl⟩
    simp only [binOp, ne_eq, not_true_eq_false, if_false, Op.intBits]
    rw [BitVec.toNat_xor]
    simp only [Int.ofNat_eq_natCast]
    rw [ofInt_nat (Nat.lt_of_lt_of_le h1 (lim_le k)), ofInt_nat (Nat.lt_of_lt_of_le h2 (lim_le k)), wrap_small (k := k) (by rw [lim_eq] at h1 h2 ⊢; exact Nat.xor_lt_two_pow h1 h2)]
    rfl
  case shl =>
    simp only [natBin, nShl] at h
    cases h1 : Nat.ble b (wid k) with
    | false => rw [h1] at h; cases h
    | true =>
      rw [h1] at h
      obtain ⟨h2, rfl⟩ := ifv_some h
      refine ⟨?_, rfl⟩
      have hb := ble_le h1
      rw [wid_eq] at hb
      have := wrap_small (k := k) (n := a * 2 ^ b) (ble_le h2)
      have hn : ¬ (Int.ofNat b < 0) := by simp only [Int.ofNat_eq_natCast]; omega
      simp only [binOp, Op.shift, hn, if_false]
      rw [show (Int.ofNat b).toNat = b from rfl, Nat.min_eq_left hb]
      simp only [Int.ofNat_eq_natCast]
      rw [show ((a : Int) * 2 ^ b) = ((a * 2 ^ b : Nat) : Int) by simp, this]
      rfl
  case shr =>
    obtain ⟨h1, rfl⟩ := ifv_some h
    refine ⟨?_, rfl⟩
    have hb := ble_le h1
    rw [wid_eq] at hb
    have hn : ¬ (Int.ofNat b < 0) := by simp only [Int.ofNat_eq_natCast]; omega
    simp only [binOp, Op.shift, hn, if_false]
    rw [show (Int.ofNat b).toNat = b from rfl, Nat.min_eq_left hb]
    simp only [Int.ofNat_eq_natCast]
    rw [show (2 ^ b : Int) = ((2 ^ b : Nat) : Int) by simp, Int.fdiv_eq_ediv_of_nonneg _ (Int.natCast_nonneg _)]
    rfl
  case andNot => cases h
  case eql =>
    cases h
    refine ⟨?_, rfl⟩
    simp only [binOp, ne_eq, not_true_eq_false, if_false, Op.intCmp]
    congr 2
    cases hb : Nat.beq a b with
    | true => have := Nat.eq_of_beq_eq_true hb; subst this; simp
    | false => have := Nat.ne_of_beq_eq_false hb; simp; omega
  case neq =>
    cases h
    refine ⟨?_, rfl⟩
    simp only [binOp, ne_eq, not_true_eq_false, if_false, Op.intCmp]
    congr 2
    cases hb : Nat.beq a b with
    | true => have := Nat.eq_of_beq_eq_true hb; subst this; simp
    | false => have := Nat.ne_of_beq_eq_false hb; simp; omega
  case lss =>
    cases h
    refine ⟨?_, rfl⟩
    simp only [binOp, ne_eq, not_true_eq_false, if_false, Op.intCmp]
    congr 2
    cases hb : Nat.ble (a + 1) b with
    | true => have := ble_le hb; simp only [Int.ofNat_eq_natCast, decide_eq_true_eq]; omega
    | false => have : ¬ (a + 1 ≤ b) := fun h => by rw [Nat.ble_eq_true_of_le h] at hb; cases hb
               simp only [Int.ofNat_eq_natCast, decide_eq_false_iff_not]; omega
  case leq =>
    cases h
    refine ⟨?_, rfl⟩
    simp only [binOp, ne_eq, not_true_eq_false, if_false, Op.intCmp]
    congr 2
    cases hb : Nat.ble a b with
    | true => have := ble_le hb; simp only [Int.ofNat_eq_natCast, decide_eq_true_eq]; omega
    | false => have : ¬ (a ≤ b) := fun h => by rw [Nat.ble_eq_true_of_le h] at hb; cases hb
               simp only [Int.ofNat_eq_natCast, decide_eq_false_iff_not]; omega
  case gtr =>
    cases h
    refine ⟨?_, rfl⟩
    simp only [binOp, ne_eq, not_true_eq_false, if_false, Op.intCmp]
    congr 2
    cases hb : Nat.ble (b + 1) a with
    | true => have := ble_le hb; simp only [Int.ofNat_eq_natCast, decide_eq_true_eq]; omega
    | false => have : ¬ (b + 1 ≤ a) := fun h => by rw [Nat.ble_eq_true_of_le h] at hb; cases hb
               simp only [Int.ofNat_eq_natCast, decide_eq_false_iff_not]; omega
  case geq =>
    cases h
    refine ⟨?_, rfl⟩
    simp only [binOp, ne_eq, not_true_eq_false, if_false, Op.intCmp]
    congr 2
    cases hb : Nat.ble b a with
    | true => have := ble_le hb; simp only [Int.ofNat_eq_natCast, decide_eq_true_eq]; omega
    | false => have : ¬ (b ≤ a) := fun h => by rw [Nat.ble_eq_true_of_le h] at hb; cases hb
               simp only [Int.ofNat_eq_natCast, decide_eq_false_iff_not]; omega

end
end Go.Ev.X
/-
  The evaluator's operations, in words that the kernel runs fast.
-/
namespace Go.Ev.X
noncomputable section

abbrev U : Array Value → Type := fun _ => PUnit
abbrev U' : List Value → Type := fun _ => PUnit
/-- An address, where it is one. -/
def isPtr (v : Value) : Option Addr :=
  @Value.rec (fun _ => Option Addr) U U' (fun _ => none) (fun _ _ => none) (fun _ _ => none) (fun _ _ _ => none) (fun _ => none) (fun a => a) (fun _ _ _ => none) (fun _ => none) (fun _ => none) (fun _ _ _ _ _ => none) none (fun _ _ _ => none) none (fun _ _ => none) (fun _ _ => none)
    (fun _ _ => ⟨⟩) ⟨⟩ (fun _ _ _ _ => ⟨⟩) v
theorem isPtr_eq (v : Value) : isPtr v = ptr v := by cases v <;> first | rfl | (rename_i a; cases a <;> rfl)

/-- A number from 0 on, where it is one. -/
def isNat (v : Value) : Option (IntKind × Nat) :=
  @Value.rec (fun _ => Option (IntKind × Nat)) U U' (fun _ => none) (fun k n => @Int.rec (fun _ => Option (IntKind × Nat)) (fun a => some (k, a)) (fun _ => none) n) (fun _ _ => none) (fun _ _ _ => none) (fun _ => none) (fun _ => none) (fun _ _ _ => none) (fun _ => none) (fun _ => none) (fun _ _ _ _ _ => none) none (fun _ _ _ => none) none (fun _ _ => none) (fun _ _ => none)
    (fun _ _ => ⟨⟩) ⟨⟩ (fun _ _ _ _ => ⟨⟩) v
theorem isNat_some {v : Value} {k : IntKind} {a : Nat} (h : isNat v = some (k, a)) : v = .int k (.ofNat a) := by
  cases v <;> first | (cases h; done) | skip
  rename_i k' n
  cases n <;> cases h
  rfl

def isBool (v : Value) : Option Bool :=
  @Value.rec (fun _ => Option Bool) U U' (fun b => some b) (fun _ _ => none) (fun _ _ => none) (fun _ _ _ => none) (fun _ => none) (fun _ => none) (fun _ _ _ => none) (fun _ => none) (fun _ => none) (fun _ _ _ _ _ => none) none (fun _ _ _ => none) none (fun _ _ => none) (fun _ _ => none)
    (fun _ _ => ⟨⟩) ⟨⟩ (fun _ _ _ _ => ⟨⟩) v

def isSlice (v : Value) : Option (Option Addr × Nat) :=
  @Value.rec (fun _ => Option (Option Addr × Nat)) U U' (fun _ => none) (fun _ _ => none) (fun _ _ => none) (fun _ _ _ => none) (fun _ => none) (fun _ => none) (fun a n _ => some (a, n)) (fun _ => none) (fun _ => none) (fun _ _ _ _ _ => none) none (fun _ _ _ => none) none (fun _ _ => none) (fun _ _ => none)
    (fun _ _ => ⟨⟩) ⟨⟩ (fun _ _ _ _ => ⟨⟩) v

abbrev OpF := Program → Nat → CallF → Fr → Mem → Ans
def slow (op : Op) : OpF := fun P base call fr m => evOp P base call fr m ⟨none, op, 0, "", #[], none⟩

def some2 (v : Value) (m : Mem) : Ans := some (v, m)
/-- On a value that may not be there. -/
abbrev may {α β : Type} (x : Option α) (f : α → Option β) : Option β := @Option.rec α (fun _ => Option β) none f x
/-- What was found fast, or else. -/
abbrev orElse' {β : Type} (x : Option Value) (m : Mem) (y : Ans) (_ : β) : Ans := @Option.rec Value (fun _ => Ans) y (fun v => some (v, m)) x

def oMove : Operand → OpF := fun x _ base _ fr m => may (val fr base x) fun y => some (y, m)
theorem oMove_eq (x : Operand) : oMove x = slow (.move x) := by
  funext P base call fr m
  unfold oMove slow
  rw [val_eq]
  simp only [evOp]
  cases fr.val base x <;> rfl
theorem oAssign_eq (x : Operand) : oMove x = slow (.assign x) := by
  funext P base call fr m
  unfold oMove slow
  rw [val_eq]
  simp only [evOp]
  cases fr.val base x <;> rfl

def oPick : Operand → Operand → Operand → OpF := fun c a b _ base _ fr m => may (val fr base c) fun c => may (isBool c) fun t => @Bool.rec (fun _ => Ans) (may (val fr base b) fun y => some (y, m)) (may (val fr base a) fun y => some (y, m)) t
theorem oPick_eq (c a b : Operand) : oPick c a b = slow (.pick c a b) := by
  funext P base call fr m
  unfold oPick slow
  rw [val_eq, val_eq, val_eq]
  simp only [evOp]
  cases fr.val base c with
  | none => rfl
  | some v => cases v <;> first | rfl | skip
              rename_i t
              cases t
              · show may (fr.val base b) _ = _
                cases fr.val base b <;> rfl
              · show may (fr.val base a) _ = _
                cases fr.val base a <;> rfl

def oLoad : TypeId → Operand → OpF := fun t a P base _ fr m => may (val fr base a) fun a => may (load P t m a) fun v => some (v, m)
theorem oLoad_eq (t : TypeId) (a : Operand) : oLoad t a = slow (.load t a) := by
  funext P base call fr m
  unfold oLoad slow
  rw [val_eq]
  simp only [evOp]
  cases fr.val base a with
  | none => rfl
  | some v =>
    show may (load P t m v) _ = _
    rw [load_eq]
    simp only
    cases evLoad P t m v <;> rfl

def oStore : TypeId → Operand → Operand → OpF := fun t a x P base _ fr m => may (val fr base a) fun a => may (val fr base x) fun x => may (store P base t m a x) fun m' => some (.tuple #[], m')
theorem oStore_eq (t : TypeId) (a x : Operand) : oStore t a x = slow (.store t a x) := by
  funext P base call fr m
  unfold oStore slow
  rw [val_eq, val_eq]
  simp only [evOp]
  cases fr.val base a with
  | none => rfl
  | some v =>
    show may (fr.val base x) _ = _
    cases fr.val base x with
    | none => rfl
    | some y =>
      show may (store P base t m v y) _ = _
      rw [store_eq]
      simp only
      cases evStore P base t m v y <;> rfl

def oNil : Operand → OpF := fun x P base call fr m => may (val fr base x) fun y => @Option.rec Addr (fun _ => Ans) (slow (.nilCheck x) P base call fr m) (fun _ => some (y, m)) (isPtr y)
theorem oNil_eq (x : Operand) : oNil x = slow (.nilCheck x) := by
  funext P base call fr m
  unfold oNil
  rw [val_eq]
  cases h : fr.val base x with
  | none => unfold slow; simp only [evOp, h]
  | some y =>
    show @Option.rec Addr (fun _ => Ans) (slow (.nilCheck x) P base call fr m) (fun _ => some (y, m)) (isPtr y) = _
    rw [isPtr_eq]
    cases hp : ptr y with
    | none => rfl
    | some a =>
      have hy : y = .pointer (some a) := by
        unfold ptr at hp
        split at hp
        · cases hp; rfl
        · cases hp
      subst hy
      unfold slow
      simp only [evOp, h]

/-- Two numbers. -/
def fastBin (op : BinOp) (x y : Value) : Option Value :=
  may (isNat x) fun p => @Prod.rec IntKind Nat (fun _ => Option Value) (fun k a => may (isNat y) fun q => @Prod.rec IntKind Nat (fun _ => Option Value) (fun k' b => @Bool.rec (fun _ => Option Value) none (natBin op k a b) (Nat.beq (kn k) (kn k'))) q) p
theorem fastBin_eq {P : Program} {op : BinOp} {t : TypeId} {xo yo : Operand} {x y v : Value} (h : fastBin op x y = some v) : evBin P op t xo yo x y = some v := by
  unfold fastBin at h
  cases hx : isNat x with
  | none => rw [hx] at h; cases h
  | some p =>
    obtain ⟨k, a⟩ := p
    have hx' := isNat_some hx
    subst hx'
    rw [hx] at h
    cases hy : isNat y with
    | none => rw [hy] at h; cases h
    | some q =>
      obtain ⟨k', b⟩ := q
      have hy' := isNat_some hy
      subst hy'
      rw [hy] at h
      have h' : @Bool.rec (fun _ => Option Value) none (natBin op k a b) (Nat.beq (kn k) (kn k')) = some v := h
      cases hk : Nat.beq (kn k) (kn k') with
      | false => rw [hk] at h'; cases h'
      | true =>
        rw [hk] at h'
        obtain ⟨h1, h2⟩ := natBin_sound (kn_eq hk) h' t
        have hg : eqGuard op t xo yo (.int k (.ofNat a)) (.int k' (.ofNat b)) = pure () := by cases op <;> rfl
        have hd : (do eqGuard op t xo yo (.int k (.ofNat a)) (.int k' (.ofNat b)); binOp op t (.int k (.ofNat a)) (.int k' (.ofNat b)) : Sem Value) = pure v := by rw [hg, h1]; rfl
        have hc : (closed (.int k (.ofNat a)) && closed (.int k' (.ofNat b))) = true := rfl
        unfold evBin
        rw [if_pos hc, hd]
        unfold pureRun
        show (if closed v = true then some v else none) = _
        rw [if_pos h2]

def oBin : BinOp → TypeId → Operand → Operand → TypeId → OpF := fun op t x y yt P base call fr m => may (val fr base x) fun a => may (val fr base y) fun b => @Option.rec Value (fun _ => Ans) (slow (.binOp op t x y yt) P base call fr m) (fun v => some (v, m)) (fastBin op a b)
theorem oBin_eq (op : BinOp) (t : TypeId) (x y : Operand) (yt : TypeId) : oBin op t x y yt = slow (.binOp op t x y yt) := by
  funext P base call fr m
  unfold oBin
  rw [val_eq, val_eq]
  cases hx : fr.val base x with
  | none => unfold slow; simp only [evOp, hx]
  | some a =>
    show may (fr.val base y) _ = _
    cases hy : fr.val base y with
    | none => unfold slow; simp only [evOp, hx, hy]
    | some b =>
      show @Option.rec Value (fun _ => Ans) _ (fun v => some (v, m)) (fastBin op a b) = _
      cases hf : fastBin op a b with
      | none => rfl
      | some v =>
        unfold slow
        simp only [evOp, hx, hy, fastBin_eq hf]

/-- A number that the kind holds. -/
def intTo (P : Program) (s d : TypeId) : Option IntKind := match P.underlying s, P.underlying d with
  | some _, some (.int k) => some k
  | _, _ => none
def fastConv (P : Program) (s d : TypeId) (x : Value) : Option Value :=
  may (isNat x) fun p => @Prod.rec IntKind Nat (fun _ => Option Value) (fun _ a => may (intTo P s d) fun k => ifv (Nat.ble (Nat.succ a) (lim k)) (.int k (.ofNat a))) p
theorem fastConv_eq {P : Program} {s d : TypeId} {m : Mem} {x v : Value} (h : fastConv P s d x = some v) : evConvert P s d m x = some (v, m) := by
  unfold fastConv at h
  cases hx : isNat x with
  | none => rw [hx] at h; cases h
  | some p =>
    obtain ⟨k0, a⟩ := p
    have hx' := isNat_some hx
    subst hx'
    rw [hx] at h
    have h' : may (intTo P s d) (fun k => ifv (Nat.ble (Nat.succ a) (lim k)) (.int k (.ofNat a))) = some v := h
    cases hi : intTo P s d with
    | none => rw [hi] at h'; cases h'
    | some k =>
      rw [hi] at h'
      obtain ⟨h1, rfl⟩ := ifv_some h'
      have hw := wrap_small (k := k) (n := a) (ble_le h1)
      unfold intTo at hi
      split at hi
      · rename_i ds q hs hd
        cases hi
        have hrun : pureRunA P (convert s d (.int k0 (.ofNat a))) = some (.int k (.ofNat a)) := by
          have e1 : pureRunA P (convert s d (.int k0 (.ofNat a))) = pureRunA P (Conv.intToInt k (.ofNat a)) := by
            have run1 : ∀ (α : Type) (t : TypeId) (q : TypeDesc) (f : TypeDesc → Sem α), P.underlying t = some q → pureRunA P (underlying t >>= f) = pureRunA P (f q) := fun α t q f hq => by
              unfold underlying
              show pureRunA P ((match P.underlying t with | some d => pure d | none => stuck "no such type") >>= f) = _
              rw [hq]
              rfl
            unfold convert
            rw [run1 _ _ _ _ hs, run1 _ _ _ _ hd]
          rw [e1]
          show some (Value.int k (k.wrap (a : Int))) = _
          rw [hw]
          rfl
        unfold evConvert
        rw [if_pos (show closed (.int k0 (.ofNat a)) = true from rfl)]
        unfold pureRun
        rw [hrun]
        rfl
      · cases hi

def oConv : TypeId → TypeId → Operand → OpF := fun s d x P base call fr m => may (val fr base x) fun a => @Option.rec Value (fun _ => Ans) (slow (.convert s d x) P base call fr m) (fun v => some (v, m)) (fastConv P s d a)
theorem oConv_eq (s d : TypeId) (x : Operand) : oConv s d x = slow (.convert s d x) := by
  funext P base call fr m
  unfold oConv
  rw [val_eq]
  cases hx : fr.val base x with
  | none => unfold slow; simp only [evOp, hx]
  | some a =>
    show @Option.rec Value (fun _ => Ans) _ (fun v => some (v, m)) (fastConv P s d a) = _
    cases hf : fastConv P s d a with
    | none => rfl
    | some v =>
      unfold slow
      simp only [evOp, hx, fastConv_eq hf]

end
end Go.Ev.X
/-
  The evaluator's other operations and all of it, in words that the kernel runs fast.
-/
namespace Go.Ev.X
noncomputable section

/-! ### addresses -/
def fieldOff (P : Program) (s : TypeId) (f : Nat) : Option Nat := match P.underlying s with
  | some (.struct fields) => match fields[f]? with
    | some fd => match sizeB P fd.type with
      | some n => if n = 0 then none else some fd.offset
      | none => none
    | none => none
  | _ => none

def oFieldAddr : TypeId → Operand → Nat → OpF := fun s x f P base _ fr m => may (val fr base x) fun v => may (isPtr v) fun a => @Addr.rec (fun _ => Ans) (fun b o sp => @Option.rec Nat (fun _ => Ans)
  (may (fieldOff P s f) fun off => some (.pointer (some ⟨b, Nat.add o off, none⟩), m)) (fun _ => none) sp) a
theorem oFieldAddr_eq (s : TypeId) (x : Operand) (f : Nat) : oFieldAddr s x f = slow (.fieldAddr s x f) := by
  funext P base call fr m
  unfold oFieldAddr slow
  rw [val_eq]
  simp only [evOp]
  cases fr.val base x with
  | none => rfl
  | some v =>
    show may (isPtr v) _ = _
    rw [isPtr_eq]
    unfold ptr evField
    split
    · rename_i a
      obtain ⟨b, o, sp⟩ := a
      cases sp with
      | some k =>
        show (none : Ans) = _
        simp only [Option.isSome_some, or_true, if_true]
        cases P.underlying s with
        | none => rfl
        | some d => cases d <;> first | rfl | skip
                    rename_i fields
                    simp only
                    cases fields[f]? with
                    | none => rfl
                    | some fd => simp only; cases sizeB P fd.type <;> rfl
      | none =>
        show may (fieldOff P s f) _ = _
        unfold fieldOff
        cases P.underlying s with
        | none => rfl
        | some d => cases d <;> first | rfl | skip
                    rename_i fields
                    simp only
                    cases fields[f]? with
                    | none => rfl
                    | some fd =>
                      simp only
                      cases sizeB P fd.type with
                      | none => rfl
                      | some n =>
                        simp only [Option.isSome_none, Bool.false_eq_true, or_false]
                        by_cases hn : n = 0
                        · rw [if_pos hn, if_pos hn]
                        · rw [if_neg hn, if_neg hn]
                          simp only [addA]
                          by_cases ho : fd.offset = 0
                          · rw [if_pos ho, ho]; rfl
                          · rw [if_neg ho]; rfl
    · rename_i hne
      cases v <;> first | rfl | skip
      rename_i a
      cases a with
      | none => rfl
      | some a => exact absurd rfl (hne a)

/-- How many there are, where that is fixed, and how big one is. -/
def ixOf (P : Program) (t : TypeId) : Option (Option Nat × Nat) := match P.underlying t with
  | some (.array len elem) => match sizeB P elem with
    | some n => some (some len, n)
    | none => none
  | some (.slice elem) => match sizeB P elem with
    | some n => some (none, n)
    | none => none
  | _ => none

def fastIx (P : Program) (t : TypeId) (x i : Value) : Option Value :=
  may (isNat i) fun p => @Prod.rec IntKind Nat (fun _ => Option Value) (fun _ j => may (ixOf P t) fun q => @Prod.rec (Option Nat) Nat (fun _ => Option Value) (fun len n =>
    @Option.rec Nat (fun _ => Option Value)
      (may (isSlice x) fun s => @Prod.rec (Option Addr) Nat (fun _ => Option Value) (fun a len => may a fun a => @Addr.rec (fun _ => Option Value) (fun b o sp =>
        @Bool.rec (fun _ => Option Value) none (@Option.rec Nat (fun _ => Option Value) (some (.pointer (some ⟨b, Nat.add o (Nat.mul j n), none⟩))) (fun k => @Bool.rec (fun _ => Option Value) none (some (.pointer (some ⟨b, Nat.add o (Nat.mul j n), none⟩))) (Nat.beq k 0)) sp) (Nat.ble (Nat.succ j) len)) a) s)
      (fun len => may (isPtr x) fun a => @Addr.rec (fun _ => Option Value) (fun b o sp => @Bool.rec (fun _ => Option Value) none (@Option.rec Nat (fun _ => Option Value) (some (.pointer (some ⟨b, Nat.add o (Nat.mul j n), none⟩))) (fun _ => none) sp) (Nat.ble (Nat.succ j) len)) a) len) q) p

theorem addA_eq (b o n : Nat) : addA ⟨b, o, none⟩ n = ⟨b, o + n, none⟩ := by
  unfold addA
  split
  · rename_i h; subst h; rfl
  · rfl

theorem fastIx_eq {P : Program} {t : TypeId} {x i v : Value} (h : fastIx P t x i = some v) : evIndexAddr P t x i = some v := by
  unfold fastIx at h
  cases hi : isNat i with
  | none => rw [hi] at h; cases h
  | some p =>
    obtain ⟨k, j⟩ := p
    have hi' := isNat_some hi
    subst hi'
    rw [hi] at h
    cases hq : ixOf P t with
    | none => rw [hq] at h; cases h
    | some q =>
      rw [hq] at h
      obtain ⟨len, n⟩ := q
      unfold ixOf at hq
      unfold evIndexAddr
      split at hq
      · rename_i len' elem hu
        split at hq
        · rename_i n' hs
          cases hq
          cases x <;> first | (cases h; done) | skip
          rename_i a
          cases a with
          | none => cases h
          | some a =>
            obtain ⟨b, o, sp⟩ := a
            have h' : @Bool.rec (fun _ => Option Value) none (@Option.rec Nat (fun _ => Option Value) (some (.pointer (some ⟨b, o + j * n, none⟩))) (fun _ => none) sp) (Nat.ble (j + 1) len') = some v := h
            cases hb : Nat.ble (j + 1) len' with
            | false => rw [hb] at h'; cases h'
            | true =>
              rw [hb] at h'
              cases sp with
              | some k => cases h'
              | none =>
                cases h'
                have := ble_le hb
                simp only [hu, hs, Int.ofNat_eq_natCast, Option.isNone_none, Int.toNat_natCast, addA_eq]
                rw [if_pos ⟨by omega, by omega, trivial⟩]
        · cases hq
      · rename_i elem hu
        split at hq
        · rename_i n' hs
          cases hq
          cases x <;> first | (cases h; done) | skip
          rename_i a len cap
          cases a with
          | none => cases h
          | some a =>
            obtain ⟨b, o, sp⟩ := a
            have h' : @Bool.rec (fun _ => Option Value) none (@Option.rec Nat (fun _ => Option Value) (some (.pointer (some ⟨b, o + j * n, none⟩))) (fun k => @Bool.rec (fun _ => Option Value) none (some (.pointer (some ⟨b, o + j * n, none⟩))) (Nat.beq k 0)) sp) (Nat.ble (j + 1) len) = some v := h
            cases hb : Nat.ble (j + 1) len with
            | false => rw [hb] at h'; cases h'
            | true =>
              rw [hb] at h'
              have hle := ble_le hb
              cases sp with
              | none =>
                cases h'
                simp only [hu, hs, Int.ofNat_eq_natCast, Int.toNat_natCast, addA_eq, lag, Option.getD_none]
                rw [if_pos ⟨by omega, by omega, trivial⟩]
              | some k =>
                have h2 : @Bool.rec (fun _ => Option Value) none (some (.pointer (some ⟨b, o + j * n, none⟩))) (Nat.beq k 0) = some v := h'
                cases hk : Nat.beq k 0 with
                | false => rw [hk] at h2; cases h2
                | true =>
                  rw [hk] at h2
                  cases h2
                  have := Nat.eq_of_beq_eq_true hk
                  subst this
                  simp only [hu, hs, Int.ofNat_eq_natCast, Int.toNat_natCast, addA_eq, lag, Option.getD_some]
                  rw [if_pos ⟨by omega, by omega, trivial⟩]
        · cases hq
      · cases hq

def oIxAddr : TypeId → Operand → Operand → OpF := fun t x i P base call fr m => may (val fr base x) fun a => may (val fr base i) fun b => @Option.rec Value (fun _ => Ans) (slow (.indexAddr t x i) P base call fr m) (fun v => some (v, m)) (fastIx P t a b)
theorem oIxAddr_eq (t : TypeId) (x i : Operand) : oIxAddr t x i = slow (.indexAddr t x i) := by
  funext P base call fr m
  unfold oIxAddr
  rw [val_eq, val_eq]
  cases hx : fr.val base x with
  | none => unfold slow; simp only [evOp, hx]
  | some a =>
    show may (fr.val base i) _ = _
    cases hy : fr.val base i with
    | none => unfold slow; simp only [evOp, hx, hy]
    | some b =>
      show @Option.rec Value (fun _ => Ans) _ (fun v => some (v, m)) (fastIx P t a b) = _
      cases hf : fastIx P t a b with
      | none => rfl
      | some v =>
        unfold slow
        simp only [evOp, hx, hy, fastIx_eq hf]

/-! ### calls -/
def isFn (x : Operand) : Option FuncId := @Operand.rec (fun _ => Option FuncId) (fun _ => none) (fun _ => none) (fun _ => none) (fun f => some f) x
def fnOf (c : Call) : Option FuncId := @Callee.rec (fun _ => Option FuncId) (fun f => isFn f) (fun _ _ => none) (fun _ => none) c.callee
def oCall : Call → OpF := fun c P base call fr m => @Option.rec FuncId (fun _ => Ans) (slow (.call c) P base call fr m) (fun g => may (vals fr base c.args.toList) fun args => call g args m) (fnOf c)
theorem oCall_eq (c : Call) : oCall c = slow (.call c) := by
  funext P base call fr m
  unfold oCall
  cases hf : fnOf c with
  | none => rfl
  | some g =>
    have hc : c.callee = .value (.func g) := by
      unfold fnOf at hf
      cases hcc : c.callee with
      | value f => rw [hcc] at hf; cases f <;> cases hf; rfl
      | invoke _ _ => rw [hcc] at hf; cases hf
      | builtin _ => rw [hcc] at hf; cases hf
    unfold slow
    simp only [evOp, evCallOp, hc]
    show may (vals fr base c.args.toList) _ = _
    rw [vals_eq]
    cases Ev.vals fr base c.args.toList with
    | none => rfl
    | some args =>
      show call g args m = _
      simp [Fr.val]

/-! ### one operation -/
def op (P : Program) (base : Nat) (call : CallF) (fr : Fr) (m : Mem) (o : Oper) : Ans :=
  @Op.rec (fun _ => OpF) oMove oMove oPick (fun t => slow (.alloc t)) (fun t x => slow (.box t x)) (fun t p => slow (.build t p)) (fun t n p => slow (.buildSlice t n p)) (fun a b c d => slow (.insert a b c d)) oLoad oStore (fun a => slow (.ready a)) (fun a => slow (.waits a)) oNil oBin
    (fun a b c => slow (.unOp a b c)) oConv (fun a b => slow (.sliceToArrayPointer a b)) (fun a b => slow (.makeInterface a b)) (fun a b c => slow (.makeFunc a b c)) (fun a b => slow (.makeMap a b)) (fun a b => slow (.makeChan a b)) (fun a b c => slow (.makeSlice a b c))
    (fun a b c d e => slow (.slice a b c d e)) oFieldAddr (fun a b c => slow (.field a b c)) oIxAddr (fun a b c => slow (.index a b c)) (fun a b c d => slow (.lookup a b c d)) (fun a b c d => slow (.mapUpdate a b c d)) (fun a b c => slow (.mapEntry a b c)) (fun a b c d => slow (.entryStore a b c d))
    (fun a b => slow (.range a b)) (fun a b => slow (.next a b)) (fun a => slow (.entry a)) (fun a b c d => slow (.typeAssert a b c d)) (fun a b => slow (.extract a b)) oCall (fun a => slow (.go a)) (fun a => slow (.defer a)) (fun a => slow (.panic a)) (fun a b => slow (.send a b)) (fun a b c => slow (.recv a b c)) (fun a b => slow (.select a b))
    o.op P base call fr m

theorem op_eq (P : Program) (base : Nat) (call : CallF) (fr : Fr) (m : Mem) (o : Oper) : op P base call fr m o = evOp P base call fr m o := by
  have h : evOp P base call fr m o = slow o.op P base call fr m := rfl
  rw [h]
  unfold op
  generalize o.op = q
  cases q <;> first
    | rfl
    | exact congrFun (congrFun (congrFun (congrFun (congrFun (oMove_eq _) _) _) _) _) _
    | exact congrFun (congrFun (congrFun (congrFun (congrFun (oAssign_eq _) _) _) _) _) _
    | exact congrFun (congrFun (congrFun (congrFun (congrFun (oPick_eq _ _ _) _) _) _) _) _
    | exact congrFun (congrFun (congrFun (congrFun (congrFun (oLoad_eq _ _) _) _) _) _) _
    | exact congrFun (congrFun (congrFun (congrFun (congrFun (oStore_eq _ _ _) _) _) _) _) _
    | exact congrFun (congrFun (congrFun (congrFun (congrFun (oNil_eq _) _) _) _) _) _
    | exact congrFun (congrFun (congrFun (congrFun (congrFun (oBin_eq _ _ _ _ _) _) _) _) _) _
    | exact congrFun (congrFun (congrFun (congrFun (congrFun (oConv_eq _ _ _) _) _) _) _) _
    | exact congrFun (congrFun (congrFun (congrFun (congrFun (oFieldAddr_eq _ _ _) _) _) _) _) _
    | exact congrFun (congrFun (congrFun (congrFun (congrFun (oIxAddr_eq _ _ _) _) _) _) _) _
    | exact congrFun (congrFun (congrFun (congrFun (congrFun (oCall_eq _) _) _) _) _) _

end
end Go.Ev.X
/-
  The evaluator's code and calls, in words that the kernel runs fast.
-/
namespace Go.Ev.X
noncomputable section

def guard (ops : List Oper) (fr : Fr) (o : Oper) : Option Bool := @Option.rec (Nat × Bool) (fun _ => Option Bool) (some true) (fun _ => guardB ops fr o) o.guard
theorem guard_eq (ops : List Oper) (fr : Fr) (o : Oper) : guard ops fr o = guardB ops fr o := by
  unfold guard
  cases h : o.guard with
  | none => unfold guardB; rw [h]
  | some jw => rfl

def ops (P : Program) (base : Nat) (call : CallF) (all l : List Oper) : Fr → Mem → Option (Fr × Mem) :=
  @List.rec Oper (fun _ => Fr → Mem → Option (Fr × Mem)) (fun fr m => some (fr, m)) (fun o _ ih fr m => may (guard all fr o) fun g =>
    @Bool.rec (fun _ => Option (Fr × Mem)) (may (put fr o.dst (.tuple #[])) fun fr' => ih fr' m)
      (may (op P base call fr m o) fun r => @Prod.rec Value Mem (fun _ => Option (Fr × Mem)) (fun v m' => may (put fr o.dst v) fun fr' => ih fr' m') r) g) l
theorem ops_eq (P : Program) (base : Nat) (call : CallF) (all : List Oper) : ∀ (l : List Oper) (fr : Fr) (m : Mem), ops P base call all l fr m = evOps P base call all l fr m
  | [], _, _ => rfl
  | o :: l, fr, m => by
    show may (guard all fr o) (fun g => @Bool.rec (fun _ => Option (Fr × Mem)) (may (put fr o.dst (.tuple #[])) fun fr' => ops P base call all l fr' m)
      (may (op P base call fr m o) fun r => @Prod.rec Value Mem (fun _ => Option (Fr × Mem)) (fun v m' => may (put fr o.dst v) fun fr' => ops P base call all l fr' m') r) g) = _
    rw [guard_eq, op_eq]
    simp only [evOps]
    cases guardB all fr o with
    | none => rfl
    | some g =>
      cases g with
      | false =>
        show may (put fr o.dst (.tuple #[])) (fun fr' => ops P base call all l fr' m) = _
        rw [put_eq]
        simp only
        cases fr.put o.dst (.tuple #[]) with
        | none => rfl
        | some fr' => exact ops_eq P base call all l fr' m
      | true =>
        show may (evOp P base call fr m o) (fun r => @Prod.rec Value Mem (fun _ => Option (Fr × Mem)) (fun v m' => may (put fr o.dst v) fun fr' => ops P base call all l fr' m') r) = _
        cases evOp P base call fr m o with
        | none => rfl
        | some r =>
          obtain ⟨v, m'⟩ := r
          show may (put fr o.dst v) (fun fr' => ops P base call all l fr' m') = _
          rw [put_eq]
          simp only
          cases fr.put o.dst v with
          | none => rfl
          | some fr' => exact ops_eq P base call all l fr' m'

def reg (P : Program) (base : Nat) (call : CallF) (all : List Oper) (fr : Fr) (m : Mem) : Option (Fr × Mem) :=
  @List.rec Oper (fun _ => Option (Fr × Mem)) (some (fr, m)) (fun o l _ => @Bool.rec (fun _ => Option (Fr × Mem)) (ops P base call all all fr m)
    (may (evSel P base fr m o) fun r => @Prod.rec Value Mem (fun _ => Option (Fr × Mem)) (fun v m' => may (put fr o.dst v) fun fr' => ops P base call all l fr' m') r) (isSel o)) all
theorem reg_eq (P : Program) (base : Nat) (call : CallF) (all : List Oper) (fr : Fr) (m : Mem) : reg P base call all fr m = evReg P base call all fr m := by
  cases all with
  | nil => rfl
  | cons o l =>
    show @Bool.rec (fun _ => Option (Fr × Mem)) (ops P base call (o :: l) (o :: l) fr m)
      (may (evSel P base fr m o) fun r => @Prod.rec Value Mem (fun _ => Option (Fr × Mem)) (fun v m' => may (put fr o.dst v) fun fr' => ops P base call (o :: l) l fr' m') r) (isSel o) = _
    rw [bool_ite, ops_eq]
    simp only [evReg]
    split
    · cases evSel P base fr m o with
      | none => rfl
      | some r =>
        obtain ⟨v, m'⟩ := r
        show may (put fr o.dst v) (fun fr' => ops P base call (o :: l) l fr' m') = _
        rw [put_eq]
        simp only
        cases fr.put o.dst v with
        | none => rfl
        | some fr' => exact ops_eq P base call (o :: l) l fr' m'
    · rfl

/-! ### regions whose order is drawn -/
abbrev LexOut := Option (List St × Fr × Mem)
def consSt (s : St) (r : LexOut) : LexOut := may r fun z => @Prod.rec (List St) (Fr × Mem) (fun _ => LexOut) (fun l z => some (s :: l, z)) z
def lex (P : Program) (base : Nat) (call : CallF) (all : List Oper) (n0 : Nat) (l : List Oper) : Nat → Fr → Nat → Mem → Mem → LexOut :=
  @List.rec Oper (fun _ => Nat → Fr → Nat → Mem → Mem → LexOut) (fun _ fr _ _ m => some ([], fr, m)) (fun o _ ih i fr c mb m => may (guard all fr o) fun g =>
    @Bool.rec (fun _ => LexOut) (may (put fr o.dst (.tuple #[])) fun fr' => consSt ⟨fr, false, .tuple #[], m, c⟩ (ih (Nat.succ i) fr' c mb m))
      (@Kind.rec (fun _ => LexOut)
        (may (op P base call fr mb o) fun r => @Prod.rec Value Mem (fun _ => LexOut) (fun v _ => may (put fr o.dst v) fun fr' => consSt ⟨fr, true, v, m, c⟩ (ih (Nat.succ i) fr' c mb m)) r)
        (may (op P base call fr m o) fun r => @Prod.rec Value Mem (fun _ => LexOut) (fun v m' => may (put fr o.dst v) fun fr' => consSt ⟨fr, true, v, m', c⟩ (ih (Nat.succ i) fr' (Nat.succ i) m' m')) r)
        (may (fblkOf P o) fun k => may (put fr o.dst (fvalOf o (Nat.add n0 i))) fun fr' => consSt ⟨fr, true, fvalOf o (Nat.add n0 i), wr m (Nat.add n0 i) k, c⟩ (ih (Nat.succ i) fr' c mb (wr m (Nat.add n0 i) k)))
        (kindOf o)) g) l

theorem cons_eq (s : St) (x : LexOut) : consSt s x = (match x with | some (r, z) => some (s :: r, z) | none => none) := by
  cases x with
  | none => rfl
  | some z => rfl

theorem lex_eq (P : Program) (base : Nat) (call : CallF) (all : List Oper) (n0 : Nat) : ∀ (l : List Oper) (i : Nat) (fr : Fr) (c : Nat) (mb m : Mem), lex P base call all n0 l i fr c mb m = lexRun P base call all n0 l i fr c mb m
  | [], _, _, _, _, _ => rfl
  | o :: l, i, fr, c, mb, m => by
    show may (guard all fr o) (fun g => @Bool.rec (fun _ => LexOut) (may (put fr o.dst (.tuple #[])) fun fr' => consSt ⟨fr, false, .tuple #[], m, c⟩ (lex P base call all n0 l (i + 1) fr' c mb m))
      (@Kind.rec (fun _ => LexOut)
        (may (op P base call fr mb o) fun r => @Prod.rec Value Mem (fun _ => LexOut) (fun v _ => may (put fr o.dst v) fun fr' => consSt ⟨fr, true, v, m, c⟩ (lex P base call all n0 l (i + 1) fr' c mb m)) r)
        (may (op P base call fr m o) fun r => @Prod.rec Value Mem (fun _ => LexOut) (fun v m' => may (put fr o.dst v) fun fr' => consSt ⟨fr, true, v, m', c⟩ (lex P base call all n0 l (i + 1) fr' (i + 1) m' m')) r)
        (may (fblkOf P o) fun k => may (put fr o.dst (fvalOf o (n0 + i))) fun fr' => consSt ⟨fr, true, fvalOf o (n0 + i), wr m (n0 + i) k, c⟩ (lex P base call all n0 l (i + 1) fr' c mb (wr m (n0 + i) k)))
        (kindOf o)) g) = _
    rw [guard_eq, op_eq, op_eq]
    simp only [lexRun]
    cases guardB all fr o with
    | none => rfl
    | some g =>
      cases g with
      | false =>
        show may (put fr o.dst (.tuple #[])) _ = _
        rw [put_eq]
        simp only
        cases fr.put o.dst (.tuple #[]) with
        | none => rfl
        | some fr' =>
          show consSt _ (lex P base call all n0 l (i + 1) fr' c mb m) = _
          rw [lex_eq P base call all n0 l]
          exact cons_eq _ _
      | true =>
        simp only
        cases kindOf o with
        | quiet =>
          show may (evOp P base call fr mb o) _ = _
          cases evOp P base call fr mb o with
          | none => rfl
          | some r =>
            obtain ⟨v, m'⟩ := r
            show may (put fr o.dst v) _ = _
            rw [put_eq]
            simp only
            cases fr.put o.dst v with
            | none => rfl
            | some fr' =>
              show consSt _ (lex P base call all n0 l (i + 1) fr' c mb m) = _
              rw [lex_eq P base call all n0 l]
              exact cons_eq _ _
        | chain =>
          show may (evOp P base call fr m o) _ = _
          cases evOp P base call fr m o with
          | none => rfl
          | some r =>
            obtain ⟨v, m'⟩ := r
            show may (put fr o.dst v) _ = _
            rw [put_eq]
            simp only
            cases fr.put o.dst v with
            | none => rfl
            | some fr' =>
              show consSt _ (lex P base call all n0 l (i + 1) fr' (i + 1) m' m') = _
              rw [lex_eq P base call all n0 l]
              exact cons_eq _ _
        | float =>
          show may (fblkOf P o) _ = _
          cases fblkOf P o with
          | none => rfl
          | some k =>
            show may (put fr o.dst (fvalOf o (n0 + i))) _ = _
            rw [put_eq]
            simp only
            cases fr.put o.dst (fvalOf o (n0 + i)) with
            | none => rfl
            | some fr' =>
              show consSt ⟨fr, true, fvalOf o (n0 + i), wr m (n0 + i) k, c⟩ (lex P base call all n0 l (i + 1) fr' c mb (wr m (n0 + i) k)) = _
              rw [lex_eq P base call all n0 l, wr_eq]
              exact cons_eq _ _

def quiet (P : Program) (base : Nat) (call : CallF) (chs : List Nat) (mk : List Nat) (i : Nat) (o : Oper) (s : St) (c : Nat) (mc : Mem) : Bool :=
  @Bool.rec (fun _ => Bool) true (@Option.rec (Value × Mem) (fun _ => Bool) false (fun r => veq r.1 s.v) (op P base call s.fr mc o)) (standsAt chs mk i c)
theorem quiet_eq (P : Program) (base : Nat) (call : CallF) (chs : List Nat) (mk : List Nat) (i : Nat) (o : Oper) (s : St) (c : Nat) (mc : Mem) : quiet P base call chs mk i o s c mc = quietOk P base call chs mk i o s c mc := by
  unfold quiet quietOk
  rw [op_eq]
  cases standsAt chs mk i c with
  | false => rfl
  | true =>
    simp only [Bool.not_true, Bool.false_or]
    cases evOp P base call s.fr mc o with
    | none => rfl
    | some r => rfl

def check (P : Program) (base : Nat) (call : CallF) (mk : List Nat) (chs : List Nat) (bs : List (Nat × Mem)) : List Oper → List St → Nat → Bool
  | o :: l, s :: r, i =>
    (match kindOf o with
     | .quiet => !s.want || bs.all fun x => Nat.beq x.1 s.c || quiet P base call chs mk i o s x.1 x.2
     | _ => true) && check P base call mk chs bs l r (i + 1)
  | _, _, _ => true
theorem check_eq (P : Program) (base : Nat) (call : CallF) (mk : List Nat) (chs : List Nat) (bs : List (Nat × Mem)) : ∀ (l : List Oper) (r : List St) (i : Nat), check P base call mk chs bs l r i = checkAll P base call mk chs bs l r i
  | [], _, _ => rfl
  | _ :: _, [], _ => rfl
  | o :: l, s :: r, i => by
    simp only [check, checkAll, quiet_eq, check_eq P base call mk chs bs l r]
    rfl

def drawn (P : Program) (base : Nat) (call : CallF) (all : List Oper) (fr : Fr) (m : Mem) : Option (Fr × Mem) :=
  @Bool.rec (fun _ => Option (Fr × Mem)) none (may (lex P base call all m.next all 0 fr 0 (bump all m) (bump all m)) fun z => @Prod.rec (List St) (Fr × Mem) (fun _ => Option (Fr × Mem)) (fun r z =>
    @Bool.rec (fun _ => Option (Fr × Mem)) none (some z) (check P base call (masks all []) ((bounds all r 0).map (·.1 - 1)) ((0, bump all m) :: bounds all r 0) all r 0)) z) (regionOk all)
theorem drawn_eq (P : Program) (base : Nat) (call : CallF) (all : List Oper) (fr : Fr) (m : Mem) : drawn P base call all fr m = evDrawn P base call all fr m := by
  unfold drawn evDrawn
  rw [bool_ite, lex_eq]
  split
  · cases lexRun P base call all m.next all 0 fr 0 (bump all m) (bump all m) with
    | none => rfl
    | some z =>
      obtain ⟨r, fr', m'⟩ := z
      show @Bool.rec (fun _ => Option (Fr × Mem)) none (some (fr', m')) (check P base call (masks all []) ((bounds all r 0).map (·.1 - 1)) ((0, bump all m) :: bounds all r 0) all r 0) = _
      rw [bool_ite, check_eq]
  · rfl

/-! ### code -/
abbrev CF := Fr → Mem → Out
def nxt (r : Out) (k : CF) : Out := may r fun z => @Prod.rec Ex (Fr × Mem) (fun _ => Out) (fun ex y => @Ex.rec (fun _ => Out) (@Prod.rec Fr Mem (fun _ => Out) (fun fr m => k fr m) y) (fun id => some (.exit id, y)) (some (.ret, y)) ex) z
def itr (f : CF) (n : Nat) : CF := @Nat.rec (fun _ => CF) (fun _ _ => none) (fun _ rc fr m => nxt (f fr m) rc) n
def out (id : Nat) (r : Out) : Out := may r fun z => @Prod.rec Ex (Fr × Mem) (fun _ => Out) (fun ex y => @Ex.rec (fun _ => Out) (some (.normal, y)) (fun id' => @Bool.rec (fun _ => Out) (some (.exit id', y)) (some (.normal, y)) (Nat.beq id' id)) (some (.ret, y)) ex) z
def none2 : CF := fun _ _ => none

def code (P : Program) (base : Nat) (call : CallF) (c : Code) : CF :=
  @Code.rec (fun _ => CF) (fun fr m => some (.normal, fr, m))
    (fun _ os d fr m => may (@Bool.rec (fun _ => Option (Fr × Mem)) (reg P base call os.toList fr m) (drawn P base call os.toList fr m) d) fun z => some (.normal, z))
    (fun _ _ iha ihb fr m => nxt (iha fr m) ihb)
    (fun c _ _ iha ihb fr m => may (val fr base c) fun v => may (isBool v) fun t => @Bool.rec (fun _ => Out) (ihb fr m) (iha fr m) t)
    (fun id _ ih fr m => out id (ih fr m))
    (fun _ ih => itr ih 100000)
    (fun _ _ _ _ _ _ => none2) (fun id fr m => some (.exit id, fr, m)) (fun _ _ => none2) (fun _ => none2) (fun _ => none2) (fun fr m => some (.ret, fr, m)) (fun _ => none2) c

theorem nxt_eq (r : Out) (k : CF) : nxt r k = (match r with | some (.normal, fr', m') => k fr' m' | r => r) := by
  cases r with
  | none => rfl
  | some z => obtain ⟨ex, fr, m⟩ := z; cases ex <;> rfl

theorem itr_eq (f g : CF) (h : ∀ fr m, f fr m = g fr m) : ∀ (n : Nat) (fr : Fr) (m : Mem), itr f n fr m = iter g n fr m
  | 0, _, _ => rfl
  | n + 1, fr, m => by
    show nxt (f fr m) (itr f n) = _
    rw [nxt_eq, h]
    simp only [iter]
    cases g fr m with
    | none => rfl
    | some z => obtain ⟨ex, fr, m⟩ := z; cases ex <;> first | rfl | exact itr_eq f g h n _ _

theorem code_eq (P : Program) (base : Nat) (call : CallF) (c : Code) : ∀ (fr : Fr) (m : Mem), code P base call c fr m = evCode P base call c fr m := by
  induction c with
  | skip => intro fr m; rfl
  | region id os d =>
    intro fr m
    show may (@Bool.rec (fun _ => Option (Fr × Mem)) (reg P base call os.toList fr m) (drawn P base call os.toList fr m) d) (fun z => some (Ex.normal, z)) = _
    rw [reg_eq, drawn_eq, bool_ite]
    simp only [evCode]
    generalize (if d = true then evDrawn P base call os.toList fr m else evReg P base call os.toList fr m) = z
    cases z <;> rfl
  | seq a b iha ihb =>
    intro fr m
    show nxt (code P base call a fr m) (code P base call b) = _
    rw [nxt_eq, iha]
    simp only [evCode]
    cases evCode P base call a fr m with
    | none => rfl
    | some z => obtain ⟨ex, fr, m⟩ := z; cases ex <;> first | rfl | exact ihb _ _
  | cond c a b iha ihb =>
    intro fr m
    show may (val fr base c) (fun v => may (isBool v) fun t => @Bool.rec (fun _ => Out) (code P base call b fr m) (code P base call a fr m) t) = _
    rw [val_eq, iha, ihb]
    simp only [evCode]
    cases fr.val base c with
    | none => rfl
    | some v => cases v <;> first | rfl | skip
                rename_i t
                cases t <;> rfl
  | block id c ih =>
    intro fr m
    show out id (code P base call c fr m) = _
    rw [ih]
    simp only [evCode]
    cases evCode P base call c fr m with
    | none => rfl
    | some z =>
      obtain ⟨ex, fr, m⟩ := z
      cases ex with
      | normal => rfl
      | exit id' => exact beq_ite id' id _ _
      | ret => rfl
  | loop c ih =>
    intro fr m
    exact itr_eq _ _ ih 100000 fr m
  | _ => intro fr m; first | rfl

/-! ### calls -/
theorem ofList_setN : ∀ (l : List Value) (i : Nat) (t : Tr Value), setN t i l = Tr.ofList l i t
  | [], _, _ => rfl
  | x :: l, i, t => by
    show setN (ins x t i) (i + 1) l = _
    rw [ins_eq]
    exact ofList_setN l (i + 1) (t.set i x)

def fn (P : Program) (base : Nat) (call : CallF) (f : Func) (args : List Value) (m : Mem) : Ans :=
  match f.body with
  | none => none
  | some c =>
    if f.ntmps < args.length then none else
    match code P base call c { tm := setN .e 0 args, n := f.ntmps } m with
    | some (.normal, fr, m') | some (.ret, fr, m') => match resultsB P fr m' f.results.toList with
      | some [v] => some (v, m')
      | some vs => some (.tuple vs.toArray, m')
      | none => none
    | _ => none
theorem fn_eq (P : Program) (base : Nat) (call : CallF) (f : Func) (args : List Value) (m : Mem) : fn P base call f args m = evFn P base call f args m := by
  unfold fn evFn
  simp only [code_eq, ofList_setN]
  cases f.body with
  | none => rfl
  | some c =>
    simp only
    split
    · rfl
    · cases evCode P base call c { tm := Tr.ofList args 0 .e, n := f.ntmps } m with
      | none => rfl
      | some z => obtain ⟨ex, fr, m⟩ := z; cases ex <;> rfl

def callN (P : Program) (base : Nat) (special : CallF) (d : Nat) : CallF :=
  @Nat.rec (fun _ => CallF) (fun _ _ _ => none) (fun _ ih f args m => @Option.rec (Value × Mem) (fun _ => Ans)
    (match P.funcs[f]? with
      | some fu => fn P base ih fu args m
      | none => none) (fun r => some r) (special f args m)) d
theorem callN_eq (P : Program) (base : Nat) (special : CallF) : ∀ d, callN P base special d = evCall P base special d
  | 0 => rfl
  | d + 1 => by
    funext f args m
    show @Option.rec (Value × Mem) (fun _ => Ans) (match P.funcs[f]? with
      | some fu => fn P base (callN P base special d) fu args m
      | none => none) (fun r => some r) (special f args m) = _
    rw [callN_eq P base special d]
    simp only [evCall]
    cases special f args m with
    | some g => rfl
    | none =>
      simp only
      cases P.funcs[f]? with
      | none => rfl
      | some fu => exact fn_eq P base _ fu args m

end
end Go.Ev.X
/-
  The table of calls that were reckoned before.
-/
namespace Go.Ev
noncomputable section

/-! ### the same, by the kernel -/
def optV2 (a b : Option Value) : Bool := match a, b with | some x, some y => veq x y | _, _ => false
def trEq (c c' : Tr Value) (n : Nat) : Bool := @Nat.rec (fun _ => Bool) true (fun i ih => @Bool.rec (fun _ => Bool) false ih (optV2 (X.get c i) (X.get c' i))) n
theorem trEq_get {c c' : Tr Value} : ∀ {n : Nat}, trEq c c' n = true → ∀ i, i < n → c.get i = c'.get i
  | 0, _, i, h => absurd h (by omega)
  | n + 1, e, i, h => by
    have e' : @Bool.rec (fun _ => Bool) false (trEq c c' n) (optV2 (X.get c n) (X.get c' n)) = true := e
    cases h1 : optV2 (X.get c n) (X.get c' n) with
    | false => rw [h1] at e'; cases e'
    | true =>
      rw [h1] at e'
      by_cases hi : i = n
      · subst hi
        rw [X.get_eq, X.get_eq] at h1
        unfold optV2 at h1
        split at h1
        · rename_i x y hx hy
          rw [hx, hy, veq_eq h1]
        · cases h1
      · exact trEq_get e' i (by omega)

def optN2 (a b : Option Nat) : Bool := match a, b with | some x, some y => Nat.beq x y | _, _ => false
def byEq (c c' : Tr Nat) (n : Nat) : Bool := @Nat.rec (fun _ => Bool) true (fun i ih => @Bool.rec (fun _ => Bool) false ih (optN2 (X.get c i) (X.get c' i))) n
theorem byEq_get {c c' : Tr Nat} : ∀ {n : Nat}, byEq c c' n = true → ∀ i, i < n → c.get i = c'.get i
  | 0, _, i, h => absurd h (by omega)
  | n + 1, e, i, h => by
    have e' : @Bool.rec (fun _ => Bool) false (byEq c c' n) (optN2 (X.get c n) (X.get c' n)) = true := e
    cases h1 : optN2 (X.get c n) (X.get c' n) with
    | false => rw [h1] at e'; cases e'
    | true =>
      rw [h1] at e'
      by_cases hi : i = n
      · subst hi
        rw [X.get_eq, X.get_eq] at h1
        unfold optN2 at h1
        split at h1
        · rename_i x y hx hy
          rw [hx, hy, Nat.eq_of_beq_eq_true h1]
        · cases h1
      · exact byEq_get e' i (by omega)

def natL : List Nat → List Nat → Bool
  | [], [] => true
  | a :: l, b :: r => Nat.beq a b && natL l r
  | _, _ => false
theorem natL_eq : ∀ {a b : List Nat}, natL a b = true → a = b
  | [], [], _ => rfl
  | a :: l, b :: r, h => by
    simp only [natL, Bool.and_eq_true] at h
    rw [Nat.eq_of_beq_eq_true h.1, natL_eq h.2]
def entL : List MapEntry → List MapEntry → Bool
  | [], [] => true
  | a :: l, b :: r => (veq a.key b.key && (veq a.val b.val && Nat.beq a.born b.born)) && entL l r
  | _, _ => false
theorem entL_eq : ∀ {a b : List MapEntry}, entL a b = true → a = b
  | [], [], _ => rfl
  | ⟨k, v, n⟩ :: l, ⟨k', v', n'⟩ :: r, h => by
    simp only [entL, Bool.and_eq_true] at h
    obtain ⟨⟨h1, h2, h3⟩, h4⟩ := h
    rw [veq_eq h1, veq_eq h2, Nat.eq_of_beq_eq_true h3, entL_eq h4]
def optN (a b : Option Nat) : Bool := match a, b with | some x, some y => Nat.beq x y | none, none => true | _, _ => false
theorem optN_eq {a b : Option Nat} (h : optN a b = true) : a = b := by
  unfold optN at h
  split at h
  · rw [Nat.eq_of_beq_eq_true h]
  · rfl
  · cases h

def objEq : Obj → Obj → Bool
  | .map ⟨a⟩ c, .map ⟨b⟩ c' => entL a b && Nat.beq c c'
  | .mapIter q a ⟨s⟩ z, .mapIter q' a' ⟨s'⟩ z' => (optN q q' && Nat.beq a a') && (natL s s' && Nat.beq z z')
  | .chan n ⟨a⟩ c s r t, .chan n' ⟨a'⟩ c' s' r' t' => (Nat.beq n n' && veqA a a') && ((c == c') && (Nat.beq s s' && (Nat.beq r r' && (t == t'))))
  | _, _ => false
theorem objEq_eq {a b : Obj} (h : objEq a b = true) : a = b := by
  unfold objEq at h
  split at h
  · simp only [Bool.and_eq_true] at h
    rw [entL_eq h.1, Nat.eq_of_beq_eq_true h.2]
  · simp only [Bool.and_eq_true] at h
    rw [optN_eq h.1.1, Nat.eq_of_beq_eq_true h.1.2, natL_eq h.2.1, Nat.eq_of_beq_eq_true h.2.2]
  · simp only [Bool.and_eq_true, beq_iff_eq] at h
    obtain ⟨⟨h1, h2⟩, h3, h4, h5, h6⟩ := h
    rw [Nat.eq_of_beq_eq_true h1, veqA_eq h2, h3, Nat.eq_of_beq_eq_true h4, Nat.eq_of_beq_eq_true h5, h6]
  · cases h

def blkEq : Blk → Blk → Bool
  | .cells c n t s, .cells c' n' t' s' => (Nat.beq n n' && Nat.beq t t') && ((s == s') && trEq c c' n)
  | .bytes c n t, .bytes c' n' t' => (Nat.beq n n' && Nat.beq t t') && byEq c c' n
  | .obj o, .obj o' => objEq o o'
  | .dead, .dead => true
  | _, _ => false
theorem blkEq_same {k k' : Blk} (h : blkEq k k' = true) : Same k k' := by
  unfold blkEq at h
  split at h
  · simp only [Bool.and_eq_true, beq_iff_eq] at h
    exact ⟨Nat.eq_of_beq_eq_true h.1.1, Nat.eq_of_beq_eq_true h.1.2, h.2.1, trEq_get h.2.2⟩
  · simp only [Bool.and_eq_true] at h
    exact ⟨Nat.eq_of_beq_eq_true h.1.1, Nat.eq_of_beq_eq_true h.1.2, byEq_get h.2⟩
  · exact objEq_eq h
  · exact trivial
  · cases h
theorem Same.trans {a b c : Blk} (h : Same a b) (h' : Same b c) : Same a c := by
  cases a <;> cases b <;> simp only [Same] at h <;> cases c <;> simp only [Same] at h' ⊢
  · obtain ⟨rfl, rfl, rfl, hc⟩ := h; obtain ⟨rfl, rfl, rfl, hc'⟩ := h'; exact ⟨rfl, rfl, rfl, fun i hi => (hc i hi).trans (hc' i hi)⟩
  · obtain ⟨rfl, rfl, hc⟩ := h; obtain ⟨rfl, rfl, hc'⟩ := h'; exact ⟨rfl, rfl, fun i hi => (hc i hi).trans (hc' i hi)⟩
  · exact h.trans h'

/-! ### memory as a list -/
abbrev BL := List (Nat × Blk)
def setAll (l : BL) (t : Tr Blk) : Tr Blk := @List.rec (Nat × Blk) (fun _ => Tr Blk → Tr Blk) (fun t => t) (fun x _ ih t => ih (@Prod.rec Nat Blk (fun _ => Tr Blk) (fun b k => X.ins k t b) x)) l t
theorem setAll_cons (b : Nat) (k : Blk) (l : BL) (t : Tr Blk) : setAll ((b, k) :: l) t = setAll l (t.set b k) := by
  show setAll l (X.ins k t b) = _
  rw [X.ins_eq]
theorem setAll_get : ∀ (l : BL) (t : Tr Blk) (b : Nat), (setAll l t).get b = match (setAll l .e).get b with | some k => some k | none => t.get b
  | [], t, b => rfl
  | (b0, k0) :: l, t, b => by
    rw [setAll_cons, setAll_cons, setAll_get l (t.set b0 k0), setAll_get l (Tr.e.set b0 k0)]
    cases (setAll l .e).get b with
    | some k => rfl
    | none =>
      simp only [Tr.get_set]
      by_cases h : b = b0
      · rw [if_pos h, if_pos h]
      · rw [if_neg h, if_neg h]; rfl
theorem setAll_mem : ∀ (l : BL) (b : Nat) (k : Blk), (setAll l .e).get b = some k → (b, k) ∈ l
  | [], b, k, h => by cases h
  | (b0, k0) :: l, b, k, h => by
    rw [setAll_cons, setAll_get] at h
    cases h1 : (setAll l .e).get b with
    | some k1 =>
      rw [h1] at h
      cases h
      exact List.mem_cons_of_mem _ (setAll_mem l b k h1)
    | none =>
      rw [h1] at h
      simp only [Tr.get_set] at h
      by_cases hb : b = b0
      · rw [if_pos hb] at h; cases h; subst hb; exact List.mem_cons_self ..
      · rw [if_neg hb] at h; cases h
theorem setAll_none : ∀ (l : BL) (b : Nat), (setAll l .e).get b = none → ∀ k, (b, k) ∉ l
  | [], b, _, k, h => by cases h
  | (b0, k0) :: l, b, h, k, hm => by
    rw [setAll_cons, setAll_get] at h
    cases h1 : (setAll l .e).get b with
    | some k1 => rw [h1] at h; cases h
    | none =>
      rw [h1] at h
      simp only [Tr.get_set] at h
      rcases List.mem_cons.1 hm with he | hm
      · cases he; rw [if_pos rfl] at h; cases h
      · exact setAll_none l b h1 k hm

/-! ### a call, and what comes of it -/
structure Pc where
  f : FuncId
  args : List Value
  next : Nat
  mem : BL
  v : Value
  next' : Nat
  diff : BL

def Pc.m (p : Pc) : Mem := ⟨setAll p.mem .e, p.next⟩
def hasIn (t : Tr Blk) (x : Nat × Blk) : Bool := @Prod.rec Nat Blk (fun _ => Bool) (fun b k => @Option.rec Blk (fun _ => Bool) false (fun k' => blkEq k' k) (X.get t b)) x
theorem hasIn_same {t : Tr Blk} {b : Nat} {k : Blk} (h : hasIn t (b, k) = true) : ∃ k', t.get b = some k' ∧ Same k' k := by
  have h' : @Option.rec Blk (fun _ => Bool) false (fun k' => blkEq k' k) (X.get t b) = true := h
  rw [X.get_eq] at h'
  cases h1 : t.get b with
  | none => rw [h1] at h'; cases h'
  | some k' => rw [h1] at h'; exact ⟨k', rfl, blkEq_same h'⟩

def keyIn (l : BL) (b : Nat) : Bool := l.any fun x => Nat.beq x.1 b
def lowOk (l : BL) (base : Nat) : Bool := (List.range base).all fun b => l.any fun x => Nat.beq x.1 b && match x.2 with | .cells .. => true | _ => false

structure Pc.Right (P : Program) (base : Nat) (p : Pc) : Prop where
  enters : Enters P p.f
  low : ∀ b, b < base → live p.m b
  calls : ∃ M', CallsTo P base p.f p.args p.m p.v M' ∧ M'.next = p.next' ∧ (∀ b k, (setAll p.diff .e).get b = some k → ∃ k', M'.blks.get b = some k' ∧ Same k' k) ∧
    (∀ b k, p.m.blks.get b = some k → (setAll p.diff .e).get b = none → ∃ k', M'.blks.get b = some k' ∧ Same k' k)

def Pc.okB (p : Pc) (r : Ans) : Bool := match r with
  | some (v', M') => (veq v' p.v && Nat.beq M'.next p.next') && (p.diff.all (hasIn M'.blks) && p.mem.all fun x => keyIn p.diff x.1 || hasIn M'.blks x)
  | none => false

theorem Pc.right {P : Program} {base : Nat} {p : Pc} (h1 : Enters P p.f) (h2 : ∀ b, b < base → live p.m b) {r : Ans} (h3 : p.okB r = true) (h4 : ∀ v m', r = some (v, m') → CallsTo P base p.f p.args p.m v m') : p.Right P base := by
  refine ⟨h1, h2, ?_⟩
  unfold Pc.okB at h3
  split at h3
  · rename_i v' M'
    simp only [Bool.and_eq_true, List.all_eq_true, Bool.or_eq_true] at h3
    obtain ⟨⟨e1, e2⟩, e3, e4⟩ := h3
    have := veq_eq e1
    subst this
    refine ⟨M', h4 _ _ rfl, Nat.eq_of_beq_eq_true e2, fun b k hk => hasIn_same (e3 _ (setAll_mem _ _ _ hk)), fun b k hk hn => ?_⟩
    rcases e4 (b, k) (setAll_mem _ _ _ hk) with h | h
    · exfalso
      obtain ⟨x, hx, hb⟩ := List.any_eq_true.1 h
      have hb' := Nat.eq_of_beq_eq_true hb
      obtain ⟨b', k'⟩ := x
      simp only at hb'
      subst hb'
      exact setAll_none _ _ hn _ hx
    · exact hasIn_same h
  · cases h3

def look (f n : Nat) : List Pc → Option Pc
  | [] => none
  | p :: l => if Nat.beq p.f f && Nat.beq p.next n then some p else look f n l
theorem look_some {f n : Nat} {p : Pc} : ∀ {l : List Pc}, look f n l = some p → p ∈ l ∧ p.f = f ∧ p.next = n
  | [], h => by cases h
  | q :: l, h => by
    simp only [look] at h
    split at h
    · rename_i hc
      cases h
      simp only [Bool.and_eq_true] at hc
      exact ⟨List.mem_cons_self .., Nat.eq_of_beq_eq_true hc.1, Nat.eq_of_beq_eq_true hc.2⟩
    · obtain ⟨h1, h2⟩ := look_some h
      exact ⟨List.mem_cons_of_mem _ h1, h2⟩

/-- The table's answer, where the call and the memory are one of it. -/
def useTable (tb : List Pc) : CallF := fun f args m => match look f m.next tb with
  | none => none
  | some p => if veqA args p.args && p.mem.all (hasIn m.blks) then some (p.v, ⟨setAll p.diff m.blks, p.next'⟩) else none

theorem useTable_sound {P : Program} {base : Nat} {tb : List Pc} (h : ∀ p ∈ tb, p.Right P base) : CallSound P base (useTable tb) := by
  intro g args X v X' e
  unfold useTable at e
  split at e
  · cases e
  · rename_i p hp
    obtain ⟨hmem, rfl, hnext⟩ := look_some hp
    split at e
    · rename_i hc
      simp only [Bool.and_eq_true, List.all_eq_true] at hc
      obtain ⟨hargs, hsub⟩ := hc
      have := veqA_eq hargs
      subst this
      cases e
      obtain ⟨r1, r2, M', r3, r4, r5, r6⟩ := h p hmem
      refine callsTo_upon r1 fun ρ w args' hr ha => ?_
      have hs : ∀ b k, p.m.blks.get b = some k → ∃ k', X.blks.get b = some k' ∧ Same k' k := fun b k hk => hasIn_same (hsub _ (setAll_mem _ _ _ hk))
      have hrel := hr.same (m := p.m) hnext fun b k hk _ => hs b k hk
      refine (r3 ρ w args' hrel ha).mono fun e w' ⟨v', ρ', he, hw, hv⟩ => ⟨v', ρ', he, ?_, hv⟩
      have hlv : ∀ {b : Nat}, live p.m b → live X b := fun {b} hb => by
        obtain ⟨k, hk, hd⟩ := hb
        obtain ⟨k', h1, h2⟩ := hs b k hk
        exact ⟨k', h1, h2.symm.live hd⟩
      refine Went.supS hr hnext hlv hw r4.symm fun b k hk hd => ?_
      · have hk' : (setAll p.diff X.blks).get b = some k := hk
        rw [setAll_get] at hk'
        cases hD : (setAll p.diff .e).get b with
        | some k0 =>
          rw [hD] at hk'
          cases hk'
          obtain ⟨k', h1, h2⟩ := r5 b k hD
          exact .inl ⟨k', h1, h2.symm.live hd, h2⟩
        | none =>
          rw [hD] at hk'
          replace hk' : X.blks.get b = some k := hk'
          by_cases hl : live p.m b
          · obtain ⟨k0, h1, h2⟩ := hl
            obtain ⟨k1, h3, h4⟩ := hs b k0 h1
            rw [hk'] at h3
            cases h3
            obtain ⟨k2, h5, h6⟩ := r6 b k0 h1 hD
            have h7 := h6.trans h4.symm
            exact .inl ⟨k2, h5, h7.symm.live hd, h7⟩
          · refine .inr ⟨?_, ?_, hl, hk'⟩
            · show b < p.next
              rw [hnext]; exact hr.bnd b k hk' hd
            · by_cases hb : base ≤ b
              · exact hb
              · exact absurd (r2 b (by omega)) hl
    · cases e

end
end Go.Ev
