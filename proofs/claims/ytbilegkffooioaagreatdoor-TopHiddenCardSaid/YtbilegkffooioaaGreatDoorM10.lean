/-
  The evaluator's maps, beside the model's.
-/
import Derived.Test.YtbilegkffooioaaGreatDoorM09
import Derived.Orders
import Derived.Conc.LoneSelect
namespace Go.Ev

theorem run_checkKey {P : Program} {t : TypeId} {k : Value} (h : keyB P t k = true) (b : Bool) (n : Nat) (w : World) : (Instr.checkKey b (n + 1) t k).run P w = .ok () w := by
  unfold keyB at h
  split at h
  · rename_i hu; simp [Instr.checkKey, run_underlying hu]
  · cases h

theorem ERL.length {ρ : Ren} {l l' : List MapEntry} (h : ERL ρ l l') : l.length = l'.length := by
  induction h with
  | nil => rfl
  | cons _ _ ih => simp [ih]
theorem ERL.append {ρ : Ren} {a a' b b' : List MapEntry} (h : ERL ρ a a') (h' : ERL ρ b b') : ERL ρ (a ++ b) (a' ++ b') := by
  induction h with
  | nil => exact h'
  | cons h0 _ ih => exact .cons h0 ih
theorem ERL.modify {ρ : Ren} {l l' : List MapEntry} (h : ERL ρ l l') {k : Value} (hk : VR ρ k k) {v v' : Value} (hv : VR ρ v v') :
    ∀ i, ERL ρ (l.modify i fun e => { e with key := k, val := v }) (l'.modify i fun e => { e with key := k, val := v' }) := by
  induction h with
  | nil => intro i; simp only [List.modify_nil]; exact .nil
  | cons h0 hl ih =>
    intro i
    cases i with
    | zero => simp only [List.modify_zero_cons]; exact .cons ⟨rfl, h0.2.1, hv, hk⟩ hl
    | succ i => simp only [List.modify_succ_cons]; exact .cons h0 (ih i)
theorem ERL.erase {ρ : Ren} {l l' : List MapEntry} (h : ERL ρ l l') : ∀ i, ERL ρ (l.eraseIdx i) (l'.eraseIdx i) := by
  induction h with
  | nil => intro i; exact .nil
  | cons h0 hl ih =>
    intro i
    cases i with
    | zero => exact hl
    | succ i => exact .cons h0 (ih i)

theorem findNow_rel {ρ : Ren} (kd : TypeDesc) (k : Value) {l l' : List MapEntry} (h : ERL ρ l l') : ∀ (i : Nat) (r : Option (Nat × Value)), Instr.findNow kd k l i = some r →
    ∃ r', Instr.findNow kd k l' i = some r' ∧ (match r, r' with | none, none => True | some (j, v), some (j', v') => j = j' ∧ VR ρ v v' | _, _ => False) := by
  induction h with
  | nil => intro i r e; simp only [Instr.findNow, Option.some.injEq] at e; subst e; exact ⟨none, rfl, trivial⟩
  | cons h0 hl ih =>
    intro i r e
    simp only [Instr.findNow] at e ⊢
    rw [← h0.1]
    split at e
    · cases e; exact ⟨_, rfl, rfl, h0.2.2.1⟩
    · exact ih _ _ e
    · cases e

/-- What the key found bears is the key's like. -/
theorem run_findKey {P : Program} {kt : TypeId} {kd : TypeDesc} (hu : P.underlying kt = some kd) {k : Value} {l : List MapEntry} {r : Option (Nat × Value)} (h : Instr.findNow kd k l 0 = some r) (w : World) :
    (Instr.findKey kt k l).run P w = .ok r w := by
  simp [Instr.findKey, run_underlying hu, h]

theorem mapOf_rel {P : Program} {base : Nat} {ρ : Ren} {m : Mem} {w : World} (h : Rel P base ρ m w) {x x' : Value} (hx : VR ρ x x') {es : Array MapEntry} {c : Nat} (e : mapOf m x = some (es, c)) :
    (x = .map none ∧ x' = .map none ∧ es = #[] ∧ c = 0) ∨
    ∃ r s es', x = .map (some r) ∧ x' = .map (some s.blk) ∧ ρ r = some s ∧ m.blks.get r = some (.obj (.map es c)) ∧ w.heap[s.blk]? = some (.map es' c) ∧ ERL ρ es.toList es'.toList := by
  unfold mapOf at e
  split at e
  · cases e; cases hx; exact .inl ⟨rfl, rfl, rfl, rfl⟩
  · rename_i r
    split at e
    · rename_i es1 c1 hg
      cases e
      cases hx with
      | leaf h => simp [leafB] at h
      | map hs =>
        rename_i s
        obtain ⟨s', hs', _, o', h1, h2⟩ := h.im r _ hg (by simp)
        have : s' = s := Option.some.inj (hs'.symm.trans hs)
        subst this
        cases h2 with
        | map h3 => exact .inr ⟨r, s', _, rfl, rfl, hs, hg, h1, h3⟩
    · cases e
  · cases e

theorem getObj_map {P : Program} {w : World} {b : Nat} {es : Array MapEntry} {c : Nat} (h : w.heap[b]? = some (.map es c)) : (getObj b).run P w = .ok (.map es c) w := by
  simp [getObj, Sem.run, h]

theorem evLookup_sound {P : Program} {base : Nat} {ρ : Ren} {m : Mem} {w : World} (h : Rel P base ρ m w) {t : TypeId} {x x' k k' v : Value} {ok : Bool} (hx : VR ρ x x') (hk : VR ρ k k')
    (e : evLookup P t m x k ok = some v) : ∃ v', (Instr.lookup t x' k' ok).run P w = .ok v' w ∧ VR ρ v v' := by
  unfold evLookup at e
  split at e
  · rename_i kt et hu
    split at e
    · rename_i es c kd z hkb hm hkd hz
      have hkk : k' = k := by
        unfold keyB at hkb
        split at hkb
        · cases hk; rfl
        · cases hkb
      subst hkk
      have hzz := VR.of_closed ρ z (zero_closed hz)
      rcases mapOf_rel h hx hm with ⟨rfl, rfl, rfl, rfl⟩ | ⟨r, s, es', rfl, rfl, hs, hg, hw, hes⟩
      · simp only [Instr.findNow] at e
        cases e
        refine ⟨if ok then .tuple #[z, .bool false] else z, by simp only [Instr.lookup, Sem.run_bind, run_underlying hu, Result.andThen_ok, Sem.run_pure, run_checkKey hkb, run_findKey hkd (l := []) (r := none) rfl, run_zero hz], ?_⟩
        cases ok
        · exact hzz
        · exact .tuple (.cons hzz (.cons (.leaf rfl) .nil))
      · split at e
        · rename_i j v0 hf
          cases e
          obtain ⟨r', h1, h2⟩ := findNow_rel kd k' hes 0 _ hf
          cases r' with
          | none => exact h2.elim
          | some r' =>
            obtain ⟨j', v'⟩ := r'
            obtain ⟨_, h2⟩ := h2
            refine ⟨if ok then .tuple #[v', .bool true] else v', by simp only [Instr.lookup, Sem.run_bind, run_underlying hu, Result.andThen_ok, getObj_map hw, Sem.run_pure, run_checkKey hkb, run_findKey hkd h1], ?_⟩
            cases ok
            · exact h2
            · exact .tuple (.cons h2 (.cons (.leaf rfl) .nil))
        · rename_i hf
          cases e
          obtain ⟨r', h1, h2⟩ := findNow_rel kd k' hes 0 _ hf
          cases r' with
          | some r' => exact h2.elim
          | none =>
            refine ⟨if ok then .tuple #[z, .bool false] else z, by simp only [Instr.lookup, Sem.run_bind, run_underlying hu, Result.andThen_ok, getObj_map hw, Sem.run_pure, run_checkKey hkb, run_findKey hkd h1, run_zero hz], ?_⟩
            cases ok
            · exact hzz
            · exact .tuple (.cons hzz (.cons (.leaf rfl) .nil))
        · cases e
    · cases e
  · cases e

theorem sameNow_eq {kd : TypeDesc} {q : IntKind} {x : Int} {k' : Value} (h : Instr.sameNow kd (.int q x) k' = some true) : k' = .int q x := by
  cases kd <;> cases k' <;> simp only [Instr.sameNow] at h <;> first | (cases h; done) | skip
  split at h
  · rename_i hk
    simp at h
    rw [hk, h]
  · cases h

theorem findNow_key {kd : TypeDesc} {q : IntKind} {x : Int} {v : Value} : ∀ {l : List MapEntry} {n i : Nat}, Instr.findNow kd (.int q x) l n = some (some (i, v)) → n ≤ i ∧ ∃ e, l[i - n]? = some e ∧ e.key = .int q x
  | [], n, i, h => by simp [Instr.findNow] at h
  | e :: l, n, i, h => by
    simp only [Instr.findNow] at h
    split at h
    · rename_i hs
      cases h
      exact ⟨Nat.le_refl _, e, by simp, sameNow_eq hs⟩
    · obtain ⟨h1, e', h2, h3⟩ := findNow_key h
      refine ⟨by omega, e', ?_, h3⟩
      rw [show i - n = (i - (n + 1)) + 1 by omega]
      simpa using h2
    · cases h

theorem run_keyThatStays {P : Program} {t : TypeId} {k : Value} (h : keyB P t k = true) (w : World) : (Instr.keyThatStays k k).run P w = .ok k w := by
  unfold keyB at h
  split at h
  · simp [Instr.keyThatStays, Instr.sameBits]
  · cases h

theorem keyB_int {P : Program} {t : TypeId} {k : Value} (h : keyB P t k = true) : ∃ q x, k = .int q x := by
  unfold keyB at h
  split at h
  · exact ⟨_, _, rfl⟩
  · cases h

theorem setObj_run {P : Program} {w : World} {b : Nat} {o o' : Obj} (h : w.heap[b]? = some o) (hc : ∀ c t f, o ≠ .cells c t f) : (setObj b o').run P w = .ok () { w with heap := w.heap.setIfInBounds b o' } := by
  cases o <;> first | (exact absurd rfl (hc _ _ _)) | simp [setObj, Sem.run, h]

theorem setObjM_sound {P : Program} {base : Nat} {ρ : Ren} {m m' : Mem} {w : World} (h : Rel P base ρ m w) {r : Nat} {s : Slot} {o o' cur : Obj} (hs : ρ r = some s) (hw : w.heap[s.blk]? = some cur) (hc : ∀ c t f, cur ≠ .cells c t f)
    (ho : OR ρ o o') (e : setObjM base m r o = some m') : ∃ w', (setObj s.blk o').run P w = .ok () w' ∧ Went P base ρ m w ρ m' w' := by
  unfold setObjM at e
  split at e
  · cases e
  · rename_i hb
    split at e
    · rename_i o0 hg
      cases e
      have hsh : s.sh = 0 := by
        obtain ⟨s', hs', h0, _⟩ := h.im r _ hg (by simp)
        have : s' = s := Option.some.inj (hs'.symm.trans hs)
        subst this
        exact h0
      refine ⟨_, setObj_run hw hc, went_wr h (by omega) ⟨_, hg, by simp⟩ hs ⟨hsh, o', ?_, ho⟩ (fun c hcne => ?_) (by simp) rfl rfl rfl⟩
      · have : s.blk < w.heap.size := (Array.getElem?_eq_some_iff.1 hw).1
        simp [this]
      · simp only [Array.getElem?_setIfInBounds]
        rw [if_neg (fun e => hcne e.symm)]
    · cases e

theorem evMapUpdate_sound {P : Program} {base : Nat} {ρ : Ren} {m m' : Mem} {w : World} (h : Rel P base ρ m w) {t : TypeId} {x x' k k' v v' : Value} (hx : VR ρ x x') (hk : VR ρ k k') (hv : VR ρ v v')
    (e : evMapUpdate P base t m x k v = some m') : ∃ w', (Instr.mapUpdate t x' k' v').run P w = .ok () w' ∧ Went P base ρ m w ρ m' w' := by
  unfold evMapUpdate at e
  split at e
  · rename_i kt et r hu
    split at e
    · rename_i es c kd hkb hm hkd
      have hkk : k' = k := by
        unfold keyB at hkb
        split at hkb
        · cases hk; rfl
        · cases hkb
      subst hkk
      rcases mapOf_rel h hx hm with ⟨h0, _⟩ | ⟨r', s, es', hr, rfl, hs, hg, hw, hes⟩
      · cases h0
      · cases hr
        split at e
        · rename_i j v0 hf
          obtain ⟨r1, h1, h2⟩ := findNow_rel kd k' hes 0 _ hf
          cases r1 with
          | none => exact h2.elim
          | some r1 =>
            obtain ⟨j', v1⟩ := r1
            obtain ⟨rfl, h2⟩ := h2
            obtain ⟨q, kx, hkx⟩ := keyB_int hkb
            obtain ⟨_, en, hen, henk⟩ := findNow_key (hkx ▸ h1)
            have hkey : ((es'[j]?).map (·.key)).getD k' = k' := by
              have : es'[j]? = some en := by simpa using hen
              rw [this]; exact henk.trans hkx.symm
            have ho : OR ρ (.map (es.modify j fun e => { e with key := k', val := v }) c) (.map (es'.modify j fun e => { e with key := k', val := v' }) c) := .map (by
              simp only [Array.toList_modify]; exact hes.modify hk hv j)
            obtain ⟨w', r1, r2⟩ := setObjM_sound h hs hw (by simp) ho e
            refine ⟨w', ?_, r2⟩
            simp only [Instr.mapUpdate, Sem.run_bind, run_underlying hu, Result.andThen_ok, getObj_map hw, run_checkKey hkb, run_findKey hkd h1, hkey, run_keyThatStays hkb]
            exact r1
        · rename_i hf
          obtain ⟨r1, h1, h2⟩ := findNow_rel kd k' hes 0 _ hf
          cases r1 with
          | some r1 => exact h2.elim
          | none =>
            have ho : OR ρ (.map (es.push { key := k', val := v, born := c }) (c + 1)) (.map (es'.push { key := k', val := v', born := c }) (c + 1)) := .map (by
              simp only [Array.toList_push]; exact hes.append (.cons ⟨rfl, rfl, hv, hk⟩ .nil))
            obtain ⟨w', r1, r2⟩ := setObjM_sound h hs hw (by simp) ho e
            refine ⟨w', ?_, r2⟩
            simp only [Instr.mapUpdate, Sem.run_bind, run_underlying hu, Result.andThen_ok, getObj_map hw, run_checkKey hkb, run_findKey hkd h1]
            exact r1
        · cases e
    · cases e
  · cases e

theorem evDelete_sound {P : Program} {base : Nat} {ρ : Ren} {m m' : Mem} {w : World} (h : Rel P base ρ m w) {t : TypeId} {ats : Array TypeId} {ty : TypeId} (hat : ats[0]? = some t) {x x' k k' : Value} (hx : VR ρ x x') (hk : VR ρ k k')
    (e : evDelete P base t m x k = some m') : ∃ w', (Builtin.delete_ ats ty #[x', k']).run P w = .ok (.tuple #[]) w' ∧ Went P base ρ m w ρ m' w' := by
  unfold evDelete at e
  split at e
  · rename_i kt et hu
    split at e
    · rename_i hkb
      cases e
      cases hx
      have hkk : k' = k := by
        obtain ⟨q, y, rfl⟩ := keyB_int hkb
        cases hk; rfl
      subst hkk
      refine ⟨w, ?_, .refl h⟩
      simp [Builtin.delete_, hat, run_underlying hu, run_checkKey hkb]
    · cases e
  · rename_i kt et r hu
    split at e
    · rename_i es c kd hkb hm hkd
      have hkk : k' = k := by
        obtain ⟨q, y, rfl⟩ := keyB_int hkb
        cases hk; rfl
      subst hkk
      rcases mapOf_rel h hx hm with ⟨h0, _⟩ | ⟨r', s, es', hr, rfl, hs, hg, hw, hes⟩
      · cases h0
      · cases hr
        split at e
        · rename_i j v0 hf
          obtain ⟨r1, h1, h2⟩ := findNow_rel kd k' hes 0 _ hf
          cases r1 with
          | none => exact h2.elim
          | some r1 =>
            obtain ⟨j', v1⟩ := r1
            obtain ⟨rfl, h2⟩ := h2
            have ho : OR ρ (.map (es.eraseIdxIfInBounds j) c) (.map (es'.eraseIdxIfInBounds j) c) := .map (by
              simp only [Array.toList_eraseIdxIfInBounds]; exact hes.erase j)
            obtain ⟨w', r1, r2⟩ := setObjM_sound h hs hw (by simp) ho e
            refine ⟨w', ?_, r2⟩
            simp [Builtin.delete_, hat, run_underlying hu, getObj_map hw, run_checkKey hkb, run_findKey hkd h1, r1]
        · rename_i hf
          obtain ⟨r1, h1, h2⟩ := findNow_rel kd k' hes 0 _ hf
          cases r1 with
          | some r1 => exact h2.elim
          | none =>
            have ho : OR ρ (.map es c) (.map es' c) := .map hes
            obtain ⟨w', r1, r2⟩ := setObjM_sound h hs hw (by simp) ho e
            refine ⟨w', ?_, r2⟩
            simp [Builtin.delete_, hat, run_underlying hu, getObj_map hw, run_checkKey hkb, run_findKey hkd h1, r1]
        · cases e
    · cases e
  · cases e

/-! ### ranging over a map -/
theorem newObj_sound {P : Program} {base : Nat} {ρ : Ren} {m : Mem} {w : World} (h : Rel P base ρ m w) {o o' : Obj} (ho : OR ρ o o') :
    ∃ w' ρ', (newObj o').run P w = .ok w.heap.size w' ∧ Went P base ρ m w ρ' (m.new (.obj o)) w' ∧ ρ' m.next = some ⟨w.heap.size, 0, 0⟩ :=
  ⟨_, _, rfl, went_new h _ _ 0 ⟨rfl, o', by simp, ho.mono (Ren.ext_with (h.dom _ (Nat.le_refl _)))⟩, by rw [Ren.with, if_pos rfl]⟩

theorem obj_rel {P : Program} {base : Nat} {ρ : Ren} {m : Mem} {w : World} (h : Rel P base ρ m w) {r : Nat} {s : Slot} {o : Obj} (hg : m.blks.get r = some (.obj o)) (hs : ρ r = some s) :
    s.sh = 0 ∧ ∃ o', w.heap[s.blk]? = some o' ∧ OR ρ o o' := by
  obtain ⟨s', hs', hb⟩ := h.im r _ hg (by simp)
  have : s' = s := Option.some.inj (hs'.symm.trans hs)
  subst this
  exact hb

theorem evRange_sound {P : Program} {base : Nat} {ρ : Ren} {m m' : Mem} {w : World} (h : Rel P base ρ m w) {t : TypeId} {x x' v : Value} (hx : VR ρ x x')
    (e : evRange P t m x = some (v, m')) : Yields P base ρ m w (Instr.range t x') v m' := by
  unfold evRange at e
  split at e
  · rename_i kt et hu
    cases e
    cases hx
    obtain ⟨w', ρ', h1, h2, h3⟩ := newObj_sound h (o := .mapIter none 0 #[] 0) .iterN
    refine ⟨_, w', ρ', ?_, h2, vr_ptr h3⟩
    simp only [Instr.range, Sem.run_bind, run_underlying hu, Result.andThen_ok, Sem.run_pure, h1]
  · rename_i kt et r hu
    split at e
    · rename_i es c hg
      cases e
      cases hx with
      | leaf h => simp [leafB] at h
      | map hs =>
        rename_i s
        obtain ⟨hsh, o', hw, ho⟩ := obj_rel h hg hs
        cases ho with
        | map hes =>
          obtain ⟨w', ρ', h1, h2, h3⟩ := newObj_sound h (o := .mapIter (some r) c #[] c) (.iter hs)
          refine ⟨_, w', ρ', ?_, h2, vr_ptr h3⟩
          simp only [Instr.range, Sem.run_bind, run_underlying hu, Result.andThen_ok, getObj_map hw, Sem.run_pure, h1]
    · cases e
  · cases e

theorem ERL.filter {ρ : Ren} {p : MapEntry → Bool} (hp : ∀ e e' : MapEntry, e.born = e'.born → p e = p e') {l l' : List MapEntry} (h : ERL ρ l l') : ERL ρ (l.filter p) (l'.filter p) := by
  induction h with
  | nil => exact .nil
  | cons h0 hl ih =>
    have := hp _ _ h0.2.1
    simp only [List.filter_cons, ← this]
    split
    · exact .cons h0 ih
    · exact ih
theorem ERL.all {ρ : Ren} {p : MapEntry → Bool} (hp : ∀ e e' : MapEntry, e.born = e'.born → p e = p e') {l l' : List MapEntry} (h : ERL ρ l l') : l.all p = l'.all p := by
  induction h with
  | nil => rfl
  | cons h0 hl ih => simp only [List.all_cons, ih, hp _ _ h0.2.1]
theorem ERL.isEmpty {ρ : Ren} {l l' : List MapEntry} (h : ERL ρ l l') : l.isEmpty = l'.isEmpty := by
  cases h <;> rfl
theorem ERL.get {ρ : Ren} {l l' : List MapEntry} (h : ERL ρ l l') : ∀ {i : Nat} {e : MapEntry}, l[i]? = some e → ∃ e', l'[i]? = some e' ∧ ER ρ e e' := by
  induction h with
  | nil => intro i e h; simp at h
  | cons h0 hl ih =>
    intro i e h
    cases i with
    | zero => simp at h; subst h; exact ⟨_, rfl, h0⟩
    | succ i => simp at h; obtain ⟨e', h1, h2⟩ := ih h; exact ⟨e', by simpa using h1, h2⟩
theorem ERL.find {ρ : Ren} {p : MapEntry → Bool} (hp : ∀ e e' : MapEntry, e.born = e'.born → p e = p e') {l l' : List MapEntry} (h : ERL ρ l l') : ∀ {e : MapEntry}, l.find? p = some e → ∃ e', l'.find? p = some e' ∧ ER ρ e e' := by
  induction h with
  | nil => intro e h; simp at h
  | cons h0 hl ih =>
    intro e h
    have := hp _ _ h0.2.1
    simp only [List.find?_cons, ← this] at h ⊢
    split at h
    · cases h; exact ⟨_, rfl, h0⟩
    · exact ih h

theorem evEntry_sound {P : Program} {base : Nat} {ρ : Ren} {m : Mem} {w : World} (h : Rel P base ρ m w) {x x' v : Value} (hx : VR ρ x x')
    (e : evEntry m x = some v) : ∃ v', (Instr.entry x').run P w = .ok v' w ∧ VR ρ v v' := by
  unfold evEntry at e
  split at e
  · rename_i r
    split at e
    · rename_i q since seen stepped hg
      split at e
      · rename_i stamp es clock hst hq
        split at e
        · cases e
        · rename_i hcl
          split at e
          · rename_i en hen
            cases e
            cases hx with
            | leaf h => simp [leafB] at h
            | ptr hs hsp =>
              rename_i s
              obtain ⟨hsh, o', hw, ho⟩ := obj_rel h hg hs
              cases ho with
              | iter hsq =>
                obtain ⟨_, o2, hw2, ho2⟩ := obj_rel h hq hsq
                cases ho2 with
                | map hes =>
                  rename_i es'
                  obtain ⟨en', h1, h2⟩ := hes.find (p := fun e => e.born == stamp) (fun a b h => by simp only [h]) (by simpa using hen)
                  refine ⟨.tuple #[en'.key, en'.val], ?_, .tuple (.cons h2.2.2.2 (.cons h2.2.2.1 .nil))⟩
                  have h1' : es'.find? (fun e => e.born == stamp) = some en' := by simpa using h1
                  have hcl' : clock = stepped := by simpa using hcl
                  simp [Instr.entry, hsh, getObj, Sem.run, hw, hw2, hst, hcl', h1']
          · cases e
      · cases e
    · cases e
  · cases e

theorem ofERL {ρ : Ren} {a b : Array MapEntry} (h : ERL ρ a.toList b.toList) : (a = #[] ∧ b = #[]) ∨ ∃ e e' l l', a = (e :: l).toArray ∧ b = (e' :: l').toArray ∧ ER ρ e e' ∧ ERL ρ l l' := by
  obtain ⟨a⟩ := a
  obtain ⟨b⟩ := b
  cases h with
  | nil => exact .inl ⟨rfl, rfl⟩
  | cons h0 hl => exact .inr ⟨_, _, _, _, rfl, rfl, h0, hl⟩

theorem getObj_iter {P : Program} {w : World} {b : Nat} {q : Option Nat} {x : Nat} {y : Array Nat} {z : Nat} (h : w.heap[b]? = some (.mapIter q x y z)) : (getObj b).run P w = .ok (.mapIter q x y z) w := by
  simp [getObj, Sem.run, h]
theorem choose_one {P : Program} (w : World) : (choose (.mapNext 1)).run P w = .ok 0 w := rfl

theorem evNext_sound {P : Program} {base : Nat} {ρ : Ren} {m m' : Mem} {w : World} (h : Rel P base ρ m w) {x x' v : Value} {b : Bool} (ty : TypeId) (hx : VR ρ x x')
    (e : evNext base m x b = some (v, m')) : Yields P base ρ m w (Instr.next x' b ty) v m' := by
  unfold evNext at e
  split at e
  · rename_i r
    cases hx with
    | leaf h => simp [leafB] at h
    | ptr hs hsp =>
      rename_i s
      split at e
      · rename_i a1 a2 a3 hg
        cases e
        obtain ⟨hsh, o', hw, ho⟩ := obj_rel h hg hs
        cases ho
        refine yields_same h (v' := .tuple #[.bool false]) ?_ (.tuple (.cons (.leaf rfl) .nil))
        simp [Instr.next, hsh, getObj, Sem.run, hw]
      · rename_i q since seen last hg
        obtain ⟨hsh, o', hw, ho⟩ := obj_rel h hg hs
        cases ho with
        | iter hsq =>
          rename_i sq
          split at e
          · rename_i es clock hq
            obtain ⟨_, o2, hw2, ho2⟩ := obj_rel h hq hsq
            cases ho2 with
            | map hes =>
              rename_i es'
              split at e
              · cases e
              · rename_i hcond
                have hcond' : ¬ ((!seen.isEmpty && !es'.isEmpty && es'.all (·.born ≥ last)) = true) := by
                  have h1 : es'.isEmpty = es.isEmpty := by have := hes.isEmpty; simpa using this.symm
                  have h2 : es'.all (·.born ≥ last) = es.all (·.born ≥ last) := by
                    have := hes.all (p := fun e => decide (e.born ≥ last)) (fun a b h => by simp only [h])
                    simpa using this.symm
                  rw [h1, h2]; exact hcond
                have hO : ERL ρ ((es.filter fun e => !seen.contains e.born).filter (·.born < since)).toList ((es'.filter fun e => !seen.contains e.born).filter (·.born < since)).toList := by
                  simp only [Array.toList_filter]
                  exact (hes.filter (fun a b h => by simp only [h])).filter (fun a b h => by simp only [h])
                have hN : ERL ρ ((es.filter fun e => !seen.contains e.born).filter (·.born ≥ since)).toList ((es'.filter fun e => !seen.contains e.born).filter (·.born ≥ since)).toList := by
                  simp only [Array.toList_filter]
                  exact (hes.filter (fun a b h => by simp only [h])).filter (fun a b h => by simp only [h])
                have key : ∀ O N O' N' : Array MapEntry, ((es.filter fun e => !seen.contains e.born).filter (·.born < since)) = O → ((es.filter fun e => !seen.contains e.born).filter (·.born ≥ since)) = N →
                    ((es'.filter fun e => !seen.contains e.born).filter (·.born < since)) = O' → ((es'.filter fun e => !seen.contains e.born).filter (·.born ≥ since)) = N' →
                    Yields P base ρ m w (Instr.next (.pointer (some ⟨s.blk, s.sh + 0, none⟩)) false ty) v m' := by
                  intro O N O' N' eO eN eO' eN'
                  simp only [eO, eN] at e hO hN
                  rw [eO'] at hO
                  rw [eN'] at hN
                  rcases ofERL hO with ⟨rfl, rfl⟩ | ⟨e1, e1', l, l', rfl, rfl, her, hel⟩
                  · rcases ofERL hN with ⟨rfl, rfl⟩ | ⟨e2, e2', l, l', rfl, rfl, her, hel⟩
                    · simp at e
                      obtain ⟨rfl, rfl⟩ := e
                      refine yields_same h (v' := .tuple #[.bool false]) ?_ (.tuple (.cons (.leaf rfl) .nil))
                      rw [hsh]
                      simp only [Instr.next, Sem.run_bind, getObj_iter hw, getObj_map hw2, Result.andThen_ok, hcond', Bool.false_eq_true, if_false, eO', eN']
                      have hc0 : ((if (#[] : Array MapEntry).isEmpty = true then #[none] else #[]) ++ Array.map some (#[] ++ #[]) : Array (Option MapEntry)) = #[none] := by simp
                      rw [hc0]
                      rfl
                    · simp at e
                  · have hl : l = [] ∧ N = #[] := by
                      have hsz : ((if (e1 :: l).toArray.isEmpty then (#[none] : Array (Option MapEntry)) else #[]) ++ ((e1 :: l).toArray ++ N).map some).size = 1 := by
                        refine Classical.byContradiction fun hn => ?_
                        rw [if_neg hn] at e
                        cases e
                      simp at hsz
                      refine ⟨List.length_eq_zero_iff.1 (by omega), Array.size_eq_zero_iff.1 (by omega)⟩
                    obtain ⟨rfl, rfl⟩ := hl
                    cases hel
                    have hN' : N' = #[] := by have := hN.length; simp at this; exact Array.size_eq_zero_iff.1 this.symm
                    subst hN'
                    have hc1 : ((if [e1].toArray.isEmpty = true then #[none] else #[]) ++ Array.map some ([e1].toArray ++ #[]) : Array (Option MapEntry)) = #[some e1] := by simp
                    have hc2 : ((if [e1'].toArray.isEmpty = true then #[none] else #[]) ++ Array.map some ([e1'].toArray ++ #[]) : Array (Option MapEntry)) = #[some e1'] := by simp
                    rw [hc1] at e
                    simp at e
                    split at e
                    · rename_i m1 hm1
                      cases e
                      have ho : OR ρ (.mapIter (some q) since (seen.push e1.born) clock) (.mapIter (some sq.blk) since (seen.push e1.born) clock) := .iter hsq
                      obtain ⟨w', r1, r2⟩ := setObjM_sound h hs hw (by simp) ho hm1
                      refine ⟨.tuple #[.bool true, e1'.key, e1'.val], w', ρ, ?_, r2, .tuple (.cons (.leaf rfl) (.cons her.2.2.2 (.cons her.2.2.1 .nil)))⟩
                      rw [hsh]
                      simp only [Instr.next, Sem.run_bind, getObj_iter hw, getObj_map hw2, Result.andThen_ok, hcond', Bool.false_eq_true, if_false, eO', eN']
                      rw [hc2]
                      rw [her.2.1] at r1
                      simp only [List.size_toArray, List.length_cons, List.length_nil, Nat.zero_add, choose_one, Result.andThen_ok]
                      simp [r1]
                    · cases e
                exact key _ _ _ _ rfl rfl rfl rfl
          · cases e
      · cases e
  · cases e

end Go.Ev
/-
  The evaluator's builtins, beside the model's.
-/
namespace Go.Ev

theorem lenB_run {P : Program} {ρ : Ren} {x x' : Value} (hx : VR ρ x x') {n : Nat} (e : lenB x = some n) (w : World) : (Builtin.lenOf x').run P w = .ok n w := by
  unfold lenB at e
  split at e
  · cases e
    cases hx with
    | leaf h => rfl
    | slice hs hsp => rfl
    | sliceO hs hsp => rfl
  · cases e; cases hx; rfl
  · cases e

theorem closedA_map {α : Type} (f : α → Value) (hf : ∀ x, closed (f x) = true) : ∀ l : List α, closedA (l.map f) = true
  | [] => rfl
  | x :: l => by simp only [List.map_cons, closedA, hf x, closedA_map f hf l, Bool.and_self]

theorem firstN_sound {P : Program} {base : Nat} {ρ : Ren} {m : Mem} {w : World} (h : Rel P base ρ m w) {size n : Nat} {x x' : Value} (hx : VR ρ x x') {l : List Value} (e : firstN m size n x = some l) :
    ∃ l', (Builtin.firstCells size n x').run P w = .ok l'.toArray w ∧ VRL ρ l l' := by
  unfold firstN at e
  split at e
  · rename_i a k c
    split at e
    · rename_i hl
      obtain ⟨s, c', hs, rfl, _⟩ := vr_slice_inv hx hl
      obtain ⟨l', h1, h2⟩ := run_loadN h hs e
      exact ⟨l', h1, h2⟩
    · split at e
      · rename_i hz
        cases e
        cases hx with
        | leaf h => simp [leafB] at h
        | slice hs hsp => exact ⟨[], by simp [Builtin.firstCells, hz, loadCells, loadCellsFrom], .nil⟩
        | sliceO hs hsp => exact ⟨[], by simp [Builtin.firstCells, hz, loadCells, loadCellsFrom], .nil⟩
      · cases e
  · cases e
    cases hx
    exact ⟨[], rfl, .nil⟩
  · cases e
    cases hx
    rename_i s _
    refine ⟨(s.extract 0 n).data.toList.map fun b => .int .u8 b.toNat, ?_, vrl_closed ρ (closedA_map _ (fun _ => rfl) _)⟩
    simp only [Builtin.firstCells, Sem.run_pure]
    congr 1
    apply Array.ext'
    simp
  · cases e

/-! ### append -/
theorem growBy_le (newLen : Nat) : ∀ (r c : Nat), c ≤ newLen → Builtin.growBy newLen r c ≤ 2 ^ r * newLen + 1000 * r * 2 ^ r
  | 0, c, h => by simpa [Builtin.growBy] using h
  | r + 1, c, h => by
    simp only [Builtin.growBy]
    split
    · have : newLen ≤ 2 ^ (r + 1) * newLen := Nat.le_mul_of_pos_left _ (Nat.pow_pos (by omega))
      omega
    · by_cases hc : c + (c + 768) / 4 ≤ newLen
      · have := growBy_le newLen r _ hc
        have h2 : 2 ^ r * newLen ≤ 2 ^ (r + 1) * newLen := Nat.mul_le_mul_right _ (Nat.pow_le_pow_right (by omega) (by omega))
        have h3 : 1000 * r * 2 ^ r ≤ 1000 * (r + 1) * 2 ^ (r + 1) := Nat.mul_le_mul (by omega) (Nat.pow_le_pow_right (by omega) (by omega))
        omega
      · have hg : Builtin.growBy newLen r (c + (c + 768) / 4) = c + (c + 768) / 4 := by
          cases r with
          | zero => rfl
          | succ r => simp only [Builtin.growBy]; rw [if_pos (by omega)]
        rw [hg]
        have h2 : 2 * newLen ≤ 2 ^ (r + 1) * newLen := Nat.mul_le_mul_right _ (by rw [Nat.pow_succ]; have := Nat.pow_pos (n := r) (show 0 < 2 by omega); omega)
        have h3 : 1000 * 1 ≤ 1000 * (r + 1) * 2 ^ (r + 1) := Nat.mul_le_mul (by omega) (Nat.pow_pos (by omega))
        omega

theorem nextcap_le (need old : Nat) (h : old ≤ need) : Builtin.nextslicecap need old ≤ 16 * need + 64000 := by
  unfold Builtin.nextslicecap
  split
  · omega
  · split
    · omega
    · have := growBy_le need 4 old h
      omega

theorem run_append_room {P : Program} {sT xT ty elem : TypeId} {xd : TypeDesc} {size n sLen sCap : Nat} {base : Option Addr} {x' : Value} {new : Array Value} {w : World}
    (hu : P.underlying sT = some (.slice elem)) (hx : P.underlying xT = some xd) (hxd : ∀ k, xd ≠ .int k) (hs : sizeB P elem = some size) (hn : (Builtin.lenOf x').run P w = .ok n w)
    (hnew : (Builtin.firstCells size n x').run P w = .ok new w) (hroom : sLen + n ≤ sCap) :
    (Builtin.append_ #[sT, xT] ty #[.slice base sLen sCap, x']).run P w =
      ((match base with | some a => storeCells (a.add (sLen * size)) new.toList | none => pure ()).run P w).andThen fun _ w' => .ok (.slice base (sLen + n) sCap) w' := by
  have hz : (match xd with | .int _ => true | _ => false) = false := by cases xd <;> first | rfl | exact absurd rfl (hxd _)
  unfold Builtin.append_
  simp only [List.getElem?_toArray, List.getElem?_cons_zero, List.getElem?_cons_succ, Sem.run_bind, run_underlying hu, Result.andThen_ok, run_size hs, run_underlying hx, Sem.run_pure]
  cases xd <;> first | (exact absurd rfl (hxd _)) | skip
  all_goals
    simp only [Bool.false_eq_true, if_false, Sem.run_bind, hn, Result.andThen_ok, hroom, if_true, Bool.not_false, hnew]
    cases base
    · rfl
    · simp only [Sem.run_bind, Sem.run_pure]

theorem run_append_grow {P : Program} {sT xT ty elem : TypeId} {xd : TypeDesc} {size n sLen sCap bytes : Nat} {base : Option Addr} {x' z : Value} {old new : Array Value} {w : World}
    (hu : P.underlying sT = some (.slice elem)) (hx : P.underlying xT = some xd) (hxd : ∀ k, xd ≠ .int k) (hs : sizeB P elem = some size) (hb : bytesB P elem = some bytes) (hz : zeroB P elem = some z)
    (hn : (Builtin.lenOf x').run P w = .ok n w)
    (hroom : ¬ (sLen + n ≤ sCap)) (hsmall : (sLen + n) * 4 * (bytes + 1) ≤ 2 ^ 30)
    (hold' : (Builtin.firstCells size sLen (.slice base sLen sCap)).run P { w with drawn := w.drawn + 1 } = .ok old { w with drawn := w.drawn + 1 })
    (hnew' : (Builtin.firstCells size n x').run P { w with drawn := w.drawn + 1 } = .ok new { w with drawn := w.drawn + 1 }) :
    ∃ nc, sLen + n ≤ nc ∧ nc ≤ maxLen ∧ (Builtin.append_ #[sT, xT] ty #[.slice base sLen sCap, x']).run P w =
      .ok (.slice (some ⟨w.heap.size, 0, none⟩) (sLen + n) nc) { w with drawn := w.drawn + 1, heap := w.heap.push (.cells (old ++ new ++ Builtin.zeroCells z.cells (nc - (sLen + n))) elem) } := by
  obtain ⟨i, hi, hib⟩ := run_bytes hb
  have c1 : ¬ ((sLen + n : Nat) : Int) > IntKind.i64.max := by
    have : (sLen + n) ≤ (sLen + n) * 4 * (bytes + 1) := by
      have := Nat.le_mul_of_pos_right ((sLen + n) * 4) (show 0 < bytes + 1 by omega)
      omega
    simp [IntKind.max, IntKind.bits, IntKind.signed]
    omega
  have c2 : ¬ (Builtin.nextslicecap (sLen + n) sCap * bytes > 2 ^ 48) := by
    have h1 := nextcap_le (sLen + n) sCap (by omega)
    have h2 : Builtin.nextslicecap (sLen + n) sCap * bytes ≤ (16 * (sLen + n) + 64000) * bytes := Nat.mul_le_mul_right _ h1
    have h3 : (sLen + n) * bytes ≤ (sLen + n) * 4 * (bytes + 1) := Nat.mul_le_mul (by omega) (by omega)
    have h4 : bytes ≤ 2 ^ 30 := by
      have : bytes + 1 ≤ (sLen + n) * 4 * (bytes + 1) := Nat.le_mul_of_pos_left _ (by omega)
      omega
    rw [Nat.add_mul, Nat.mul_assoc] at h2
    omega
  refine ⟨(sLen + n) + w.tape w.drawn (.appendCap (sLen + n) sCap elem) % (2 ^ 63 - (sLen + n)), by omega, ?_, ?_⟩
  · have hlt : (sLen + n) < 2 ^ 63 := by
      simp [IntKind.max, IntKind.bits, IntKind.signed] at c1
      omega
    have := Nat.mod_lt (w.tape w.drawn (.appendCap (sLen + n) sCap elem)) (show 0 < 2 ^ 63 - (sLen + n) by omega)
    simp only [maxLen]
    omega
  unfold Builtin.append_
  simp only [List.getElem?_toArray, List.getElem?_cons_zero, List.getElem?_cons_succ, Sem.run_bind, run_underlying hu, Result.andThen_ok, run_size hs, run_underlying hx, Sem.run_pure]
  cases xd <;> first | (exact absurd rfl (hxd _)) | skip
  all_goals
    simp only [Bool.false_eq_true, if_false, Sem.run_bind, hn, Result.andThen_ok, hroom, Bool.not_false, if_true, c1, false_and, typeInfo, run_program, hi, Sem.run_pure, hib, c2, run_choose, Question.forced, Question.cut, run_askRoom, hold', hnew', run_zero hz, newRow, run_newObj]

/-- A new row of which only the beginning is known. -/
theorem grown_sound {P : Program} {base : Nat} {ρ : Ren} {m : Mem} {w : World} (h : Rel P base ρ m w) (t : TypeId) {l : List Value} {cs : Array Value} (x : Nat) (hl : VRL ρ l (cs.toList.take l.length)) (hsz : cs.size = l.length + x * P.cellsOf t) (hmx : cs.size ≤ maxLen * P.cellsOf t) :
    Went P base ρ m w (ρ.with m.next ⟨w.heap.size, 0, x⟩) (m.newCells t l false) { w with heap := w.heap.push (.cells cs t) } := by
  refine went_new h _ _ x ⟨cs, by simp, by simp; omega, fun i hi => ?_, rfl, fun _ => ⟨by simpa using hsz, by simpa using hmx⟩⟩
  rw [Tr.get_ofList, if_pos (by omega)]
  obtain ⟨v', hv', hvr⟩ := hl.get (i := i) (v := l[i]) (by simp [hi])
  have hv2 : cs.toList[i]? = some v' := by
    rw [List.getElem?_take] at hv'
    rw [if_pos hi] at hv'
    exact hv'
  exact ⟨l[i], v', by simp [hi], by simpa using hv2, hvr.mono (Ren.ext_with (h.dom _ (Nat.le_refl _)))⟩

/-- A block goes on under a new number, from some place in it on. -/
theorem went_moved {P : Program} {base : Nat} {ρ : Ren} {m : Mem} {w w' : World} (h : Rel P base ρ m w) {b : Nat} {s : Slot} (hb : base ≤ b) (hl : live m b) (hs : ρ b = some s) (k : Blk) (s' : Slot) (hs' : s'.blk = s.blk)
    (hk : BR P (ρ.with m.next s') k s' w') (hw : ∀ c, c ≠ s.blk → w'.heap[c]? = w.heap[c]?) (hsz : w'.heap.size = w.heap.size) (hos : w'.os = w.os) (hout : w'.output = w.output) (htape : w'.tape = w.tape) :
    Went P base ρ m w (ρ.with m.next s') ((m.wr b .dead).new k) w' := by
  have hdom : ρ m.next = none := h.dom _ (Nat.le_refl _)
  have he := Ren.ext_with (s := s') hdom
  have hbn : b ≠ m.next := by have := live_lt h hl; omega
  have hget : ∀ x, x ≠ m.next → x ≠ b → ((m.wr b .dead).new k).blks.get x = m.blks.get x := fun x h1 h2 => by
    simp only [Mem.new, Mem.wr]
    rw [Tr.get_set_ne _ _ h1, Tr.get_set_ne _ _ h2]
  have hgetn : ((m.wr b .dead).new k).blks.get m.next = some k := by simp only [Mem.new, Mem.wr]; exact Tr.get_set_eq _ _ _
  have hgetb : ((m.wr b .dead).new k).blks.get b = some .dead := by simp only [Mem.new, Mem.wr]; rw [Tr.get_set_ne _ _ hbn, Tr.get_set_eq]
  have hl' : ∀ x, x ≠ m.next → live ((m.wr b .dead).new k) x → live m x ∧ x ≠ b := fun x hx ⟨k', hk', hd⟩ => by
    by_cases hxb : x = b
    · subst hxb
      rw [hgetb] at hk'
      exact absurd (Option.some.inj hk').symm hd
    · exact ⟨⟨k', (hget x hx hxb).symm.trans hk', hd⟩, hxb⟩
  refine ⟨he, ⟨fun x hx => ?_, fun x k' hk' hd => ?_, fun x k' hk' hd => ?_, fun x y s1 s2 hx hy h1 h2 heq => ?_, fun x hx => ?_, Nat.le_succ_of_le h.low⟩,
    ⟨by omega, fun c _ hno => hw c (fun e => hno b s hb hl hs e.symm), hos, hout, htape⟩, fun x t hx hlx ht => ?_, Nat.le_succ _, fun x hx hlx => (hl' x (by omega) hlx).1, fun x hx => by rw [Ren.with, if_neg (by omega)]⟩
  · have : m.next + 1 ≤ x := hx
    rw [Ren.with, if_neg (by omega)]; exact h.dom x (by omega)
  · show x < m.next + 1
    by_cases h1 : x = m.next
    · omega
    · by_cases h2 : x = b
      · have := live_lt h hl; omega
      · have := h.bnd x k' ((hget x h1 h2).symm.trans hk') hd; omega
  · by_cases h1 : x = m.next
    · subst h1
      rw [hgetn] at hk'
      cases hk'
      exact ⟨s', by rw [Ren.with, if_pos rfl], hk⟩
    · obtain ⟨hlx, hxb⟩ := hl' x h1 ⟨k', hk', hd⟩
      have hk0 := (hget x h1 hxb).symm.trans hk'
      obtain ⟨t, ht, hbr⟩ := h.im x k' hk0 hd
      exact ⟨t, he x t ht, hbr.mono he (hw _ fun e => hxb (h.inj x b t s hlx hl ht hs e))⟩
  · by_cases hx1 : x = m.next <;> by_cases hy1 : y = m.next
    · omega
    · subst hx1
      rw [Ren.with, if_pos rfl] at h1
      rw [Ren.with, if_neg hy1] at h2
      cases h1
      obtain ⟨hly, hyb⟩ := hl' y hy1 hy
      exact absurd (h.inj y b s2 s hly hl h2 hs (heq.symm.trans hs')) hyb
    · subst hy1
      rw [Ren.with, if_pos rfl] at h2
      rw [Ren.with, if_neg hx1] at h1
      cases h2
      obtain ⟨hlx, hxb⟩ := hl' x hx1 hx
      exact absurd (h.inj x b s1 s hlx hl h1 hs (heq.trans hs')) hxb
    · rw [Ren.with, if_neg hx1] at h1
      rw [Ren.with, if_neg hy1] at h2
      exact h.inj x y s1 s2 (hl' x hx1 hx).1 (hl' y hy1 hy).1 h1 h2 heq
  · have := h.low
    rw [Ren.with, if_neg (by omega)]; exact h.glob x hx
  · by_cases h1 : x = m.next
    · subst h1
      rw [Ren.with, if_pos rfl] at ht
      cases ht
      exact .inr ⟨b, s, hb, hl, hs, hs'.symm⟩
    · obtain ⟨hlx, _⟩ := hl' x h1 hlx
      exact absurd (live_lt h hlx) (by omega)

theorem cellsOf_size {P : Program} {t : TypeId} {n : Nat} (h : sizeB P t = some n) : P.cellsOf t = n := by
  unfold sizeB at h
  unfold Program.cellsOf
  rw [h]; rfl

theorem loadN_length {m : Mem} {b : Nat} : ∀ {k i : Nat} {l : List Value}, m.loadN b i k = some l → l.length = k
  | 0, i, l, e => by simp only [Mem.loadN, Option.some.injEq] at e; subst e; rfl
  | k + 1, i, l, e => by
    simp only [Mem.loadN] at e
    split at e
    · split at e
      · rename_i l1 hl1
        cases e
        simp [loadN_length hl1]
      · cases e
    · cases e

theorem zeroCells_size (z : Array Value) (n : Nat) : (Builtin.zeroCells z n).size = n * z.size := by simp [Builtin.zeroCells]

/-- The growth, whatever the room. -/
theorem grow_sound {P : Program} {base : Nat} {ρ : Ren} {m m1 : Mem} {w : World} (h : Rel P base ρ m w) (h1 : Rel P base ρ m1 w) {sT xT ty elem : TypeId} {xd : TypeDesc} {size n sLen sCap bytes : Nat} {ad : Option Addr} {x x' z : Value} {old new : List Value} {s0 : Value}
    (hu : P.underlying sT = some (.slice elem)) (hx : P.underlying xT = some xd) (hxd : ∀ k, xd ≠ .int k) (hs : sizeB P elem = some size) (hb : bytesB P elem = some bytes) (hz : zeroB P elem = some z) (hzs : z.cells.size = size)
    (hvx : VR ρ x x') (hlen : lenB x = some n) (hnew : firstN m size n x = some new) (hnl : new.length = n * size) (hvs : VR ρ s0 (.slice ad sLen sCap)) (hold : firstN m size sLen s0 = some old) (hol : old.length = sLen * size)
    (hroom : ¬ (sLen + n ≤ sCap)) (hsmall : (sLen + n) * 4 * (bytes + 1) ≤ 2 ^ 30) :
    ∃ nc w', sLen + n ≤ nc ∧ (Builtin.append_ #[sT, xT] ty #[.slice ad sLen sCap, x']).run P w = .ok (.slice (some ⟨w.heap.size, 0, none⟩) (sLen + n) nc) w' ∧
      Went P base ρ m1 w (ρ.with m1.next ⟨w.heap.size, 0, nc - (sLen + n)⟩) (m1.newCells elem (old ++ new) false) w' := by
  have g := went_drew h (w.drawn + 1)
  have g1 := went_drew h1 (w.drawn + 1)
  obtain ⟨old', o1, o2⟩ := firstN_sound g.rel hvs hold
  obtain ⟨new', n1, n2⟩ := firstN_sound g.rel hvx hnew
  obtain ⟨nc, hnc, hmx, hrun⟩ := run_append_grow (ty := ty) hu hx hxd hs hb hz (lenB_run hvx hlen w) hroom hsmall o1 n1
  have lo := o2.length
  have ln := n2.length
  refine ⟨nc, _, hnc, hrun, Went.trans h1 g1 (grown_sound g1.rel elem (cs := old'.toArray ++ new'.toArray ++ Builtin.zeroCells z.cells (nc - (sLen + n))) (nc - (sLen + n)) ?_ ?_ ?_)⟩
  · have : (old'.toArray ++ new'.toArray ++ Builtin.zeroCells z.cells (nc - (sLen + n))).toList.take (old ++ new).length = old' ++ new' := by
      simp only [Array.toList_append, List.length_append, lo, ln]
      rw [← List.length_append, List.take_left']
      rfl
    rw [this]
    exact o2.append n2
  · simp only [List.length_append, Array.size_append, List.size_toArray, zeroCells_size, cellsOf_size hs, hzs]
    omega
  · simp only [Array.size_append, List.size_toArray, zeroCells_size, cellsOf_size hs, hzs]
    have e1 : (nc - (sLen + n)) * size + (sLen + n) * size = nc * size := by rw [← Nat.add_mul]; congr 1; omega
    have e2 : nc * size ≤ maxLen * size := Nat.mul_le_mul_right _ hmx
    rw [Nat.add_mul] at e1
    omega

theorem vr_open {ρ : Ren} {b x g : Nat} : ρ.with b ⟨g, 0, x⟩ b = some ⟨g, 0, x⟩ := by rw [Ren.with, if_pos rfl]

theorem evAppend_sound {P : Program} {base : Nat} {ρ : Ren} {m m' : Mem} {w : World} (h : Rel P base ρ m w) {ats : Array TypeId} (ty : TypeId) {s s' x x' v : Value} (hvs : VR ρ s s') (hvx : VR ρ x x')
    (e : evAppend P base ats.toList m s x = some (v, m')) : Yields P base ρ m w (Builtin.append_ ats ty #[s', x']) v m' := by
  obtain ⟨ats⟩ := ats
  simp only [evAppend] at e
  split at e
  · rename_i sT xT
    split at e
    · rename_i elem xd hu hx
      split at e
      · cases e
      · rename_i hxd
        have hxd : ∀ k, xd ≠ .int k := fun k hk => hxd k hk
        rw [if_neg Bool.false_ne_true] at e
        split at e
        · rename_i sb sLen sCap n size bytes z hn hs hb hz
          split at e
          · cases e
          · rename_i hzs
            have hzs : z.cells.size = size := Classical.not_not.1 hzs
            split at e
            · cases e
            · rename_i new hnew
              split at e
              · cases e
              · rename_i hnl
                have hnl : new.length = n * size := Classical.not_not.1 hnl
                split at e
                · rename_i hroom
                  obtain ⟨new', n1, n2⟩ := firstN_sound h hvx hnew
                  split at e
                  · rename_i a
                    split at e
                    · rename_i hlag
                      split at e
                      · rename_i m1 hst
                        cases e
                        obtain ⟨t, c', ht, rfl, hcap⟩ := vr_slice_inv hvs hlag
                        have hc' : sLen + n ≤ c' := by rcases hcap with ⟨_, h⟩ | ⟨_, h⟩ <;> omega
                        obtain ⟨w', r1, r2⟩ := storeN_sound h ht n2 hst
                        have hrun := run_append_room (ty := ty) (base := some ⟨t.blk, t.sh + a.off, none⟩) (sCap := c') hu hx hxd hs (lenB_run hvx hn w) n1 hc'
                        simp only [addr_add] at hrun
                        rw [show t.sh + a.off + sLen * size = t.sh + (a.off + sLen * size) by omega, r1] at hrun
                        refine ⟨_, w', ρ, hrun, r2, ?_⟩
                        rcases hcap with ⟨h0, h1⟩ | ⟨h0, h1⟩
                        · subst h1; exact .slice ht h0
                        · subst h1
                          have := VR.sliceO (n := sLen + n) (c := sCap) ht h0
                          simpa using this
                      · cases e
                    · cases e
                  · split at e
                    · rename_i hemp
                      cases e
                      cases hvs
                      have hrun := run_append_room (ty := ty) (base := none) (sLen := sLen) (sCap := sCap) hu hx hxd hs (lenB_run hvx hn w) n1 hroom
                      exact ⟨_, w, ρ, hrun, .refl h, .leaf rfl⟩
                    · cases e
                · rename_i hroom
                  split at e
                  · cases e
                  · rename_i hsmall
                    have hsmall : (sLen + n) * 4 * (bytes + 1) ≤ 2 ^ 30 := by omega
                    split at e
                    · cases e
                    · rename_i old hold
                      split at e
                      · cases e
                      · rename_i hol
                        have hol : old.length = sLen * size := Classical.not_not.1 hol
                        split at e
                        · cases e
                          cases hvs
                          obtain ⟨nc, w', hnc, hrun, hw⟩ := grow_sound (ty := ty) h h hu hx hxd hs hb hz hzs hvx hn hnew hnl (.leaf rfl) hold hol hroom hsmall
                          refine ⟨_, w', _, hrun, hw, ?_⟩
                          have := vr_sliceO (o := 0) (n := sLen + n) (c := sLen + n) (k := 0) (vr_open (ρ := ρ) (b := m.next) (x := nc - (sLen + n)) (g := w.heap.size))
                          rw [show sLen + n + (nc - (sLen + n)) = nc by omega] at this
                          simpa using this
                        · rename_i a
                          split at e
                          · rename_i hsp
                            cases e
                            obtain ⟨t, c', ht, rfl, hcap⟩ := vr_slice_inv hvs (by simp [lag, hsp])
                            have hc' : c' = sCap := by rcases hcap with ⟨_, h⟩ | ⟨h0, _⟩; exact h; rw [hsp] at h0; cases h0
                            subst hc'
                            obtain ⟨nc, w', hnc, hrun, hw⟩ := grow_sound (ty := ty) h h hu hx hxd hs hb hz hzs hvx hn hnew hnl hvs hold hol hroom hsmall
                            refine ⟨_, w', _, hrun, hw, ?_⟩
                            have := vr_sliceO (o := 0) (n := sLen + n) (c := sLen + n) (k := 0) (vr_open (ρ := ρ) (b := m.next) (x := nc - (sLen + n)) (g := w.heap.size))
                            rw [show sLen + n + (nc - (sLen + n)) = nc by omega] at this
                            simpa using this
                          · rename_i k0 hsp
                            split at e
                            · rename_i c k t0 hbk
                              split at e
                              · rename_i hcond
                                obtain ⟨rfl, hoff, hk, hbase, hlag, hflat⟩ := hcond
                                cases e
                                obtain ⟨t, c', ht, rfl, hcap⟩ := vr_slice_inv hvs hlag
                                have hc' : c' = sCap + t.ext := by rcases hcap with ⟨h0, _⟩ | ⟨_, h⟩; rw [hsp] at h0; cases h0; exact h
                                subst hc'
                                have hlive : live m a.block := ⟨_, hbk, by simp⟩
                                by_cases hfit : sLen + n ≤ sCap + t.ext
                                · obtain ⟨t1, ht1, cs, g1, g2, g3, g4, g5⟩ := h.im a.block _ hbk (by simp)
                                  obtain ⟨g6, g7⟩ := g5 rfl
                                  have hte : t1 = t := Option.some.inj (ht1.symm.trans ht)
                                  subst hte
                                  rw [cellsOf_size hs] at g2 g6 g7
                                  simp only [firstN, hlag, if_true] at hold
                                  obtain ⟨old', o1, o2, o3⟩ := loadN_rel h ht (sLen * size) a.off old hold
                                  obtain ⟨new', n1, n2⟩ := firstN_sound h hvx hnew
                                  have ln := n2.length
                                  have hmul : (sLen + n) * size ≤ (sCap + t1.ext) * size := Nat.mul_le_mul_right _ hfit
                                  have hmul2 : (sCap + t1.ext - (sLen + n)) * size + (sLen + n) * size = (sCap + t1.ext) * size := by rw [← Nat.add_mul]; congr 1; omega
                                  rw [Nat.add_mul, Nat.add_mul] at hmul
                                  rw [Nat.add_mul, Nat.add_mul] at hmul2
                                  have hrun := run_append_room (ty := ty) (base := some ⟨t1.blk, t1.sh + a.off, none⟩) (sCap := sCap + t1.ext) hu hx hxd hs (lenB_run hvx hn w) n1 hfit
                                  have hst := run_storeCells_at P t1.blk (t1.sh + (a.off + sLen * size)) t0 new' 0 cs w g1 (by omega) (n2.flat hflat)
                                  simp only [Nat.add_zero] at hst
                                  simp only [addr_add] at hrun
                                  rw [show t1.sh + a.off + sLen * size = t1.sh + (a.off + sLen * size) by omega, hst] at hrun
                                  have hfl : t1.sh + (a.off + sLen * size) + new'.length ≤ cs.toList.length := by simp; omega
                                  refine ⟨_, _, _, hrun, went_moved h hbase hlive ht (.cells (Tr.ofList (old ++ new) 0 .e) (old ++ new).length t0 false) ⟨t1.blk, t1.sh + a.off, sCap + t1.ext - (sLen + n)⟩ rfl
                                    ⟨_, setRow_heap w _ _ _ _ _ g1, ?_, fun i hi => ?_, by simp only [g4, hoff], fun _ => ?_⟩ (fun c hc => setRow_other w _ _ _ hc) (by simp) rfl rfl rfl, ?_⟩
                                  · rw [cellsOf_size hs]
                                    simp only [List.length_append, List.size_toArray, List.length_take, List.length_drop, Array.length_toList]
                                    omega
                                  · have hext := Ren.ext_with (s := ⟨t1.blk, t1.sh + a.off, sCap + t1.ext - (sLen + n)⟩) (h.dom _ (Nat.le_refl _))
                                    rw [Tr.get_ofList, if_pos (by omega)]
                                    simp only [List.getElem?_toArray, mid_get _ _ _ hfl]
                                    simp only [List.length_append] at hi
                                    by_cases hi2 : i < sLen * size
                                    · rw [if_neg (by omega)]
                                      have hi3 : i < old.length := by omega
                                      obtain ⟨v', hv', hvr⟩ := o2.get (i := i) (v := old[i]) (by simp [hi3])
                                      have hcell := o3 i v' hv'
                                      simp only [World.cell?, g1] at hcell
                                      refine ⟨old[i], v', ?_, ?_, hvr.mono hext⟩
                                      · simp [List.getElem?_append, hi3]
                                      · simpa using hcell
                                    · rw [if_pos (by omega)]
                                      obtain ⟨d, hd⟩ : ∃ d, i = sLen * size + d := ⟨i - sLen * size, by omega⟩
                                      subst hd
                                      have hd2 : d < new.length := by omega
                                      obtain ⟨v', hv', hvr⟩ := n2.get (i := d) (v := new[d]) (by simp [hd2])
                                      refine ⟨new[d], v', ?_, ?_, hvr.mono hext⟩
                                      · rw [Nat.sub_zero, List.getElem?_append_right (by omega), hol, Nat.add_sub_cancel_left]; simp [hd2]
                                      · rw [show t1.sh + a.off + (sLen * size + d) - (t1.sh + (a.off + sLen * size)) = d by omega]; exact hv'
                                  · rw [cellsOf_size hs]
                                    have hsz : ((cs.toList.take (t1.sh + (a.off + sLen * size)) ++ new' ++ cs.toList.drop (t1.sh + (a.off + sLen * size) + new'.length)).toArray).size = cs.size := by
                                      simp
                                      omega
                                    rw [hsz]
                                    refine ⟨?_, g7⟩
                                    simp only [List.length_append]
                                    omega
                                  · have hopen : (ρ.with m.next ⟨t1.blk, t1.sh + a.off, sCap + t1.ext - (sLen + n)⟩) m.next = some ⟨t1.blk, t1.sh + a.off, sCap + t1.ext - (sLen + n)⟩ := by rw [Ren.with, if_pos rfl]
                                    have := vr_sliceO (o := 0) (n := sLen + n) (c := sLen + n) (k := 0) hopen
                                    rw [show sLen + n + (sCap + t1.ext - (sLen + n)) = sCap + t1.ext by omega] at this
                                    simpa using this
                                · have hkill := rel_kill h hbase hlive ht
                                  obtain ⟨nc, w', hnc, hrun, hw⟩ := grow_sound (ty := ty) h hkill.rel hu hx hxd hs hb hz hzs hvx hn hnew hnl hvs hold hol hfit hsmall
                                  refine ⟨_, w', _, hrun, Went.trans h hkill hw, ?_⟩
                                  have := vr_sliceO (o := 0) (n := sLen + n) (c := sLen + n) (k := 0) (vr_open (ρ := ρ) (b := m.next) (x := nc - (sLen + n)) (g := w.heap.size))
                                  rw [show sLen + n + (nc - (sLen + n)) = nc by omega] at this
                                  simp only [Nat.add_zero, ite_self] at this
                                  exact this
                              · cases e
                            · cases e
        · cases e
    · cases e
  · cases e

end Go.Ev
/-
  The rest of the evaluator's operations, beside the model's.
-/
namespace Go.Ev

/-! ### comparing -/
theorem evPtrEq_sound {P : Program} {ρ : Ren} {t : TypeId} {d : TypeDesc} (hu : P.underlying t = some d) {x x' y y' : Value} (hx : VR ρ x x') (hy : VR ρ y y') {b : Bool} (e : evPtrEq d x y = some b) (n : Nat) (w : World) :
    (Op.equalIn (n + 1) t x' y').run P w = .ok b w ∧ (∀ op xo yo, (eqGuard op t xo yo x' y').run P w = .ok () w) ∧ (binOp .eql t x' y' = (do pure (.bool (← Op.equal t x' y')))) ∧ (binOp .neq t x' y' = (do pure (.bool (!(← Op.equal t x' y'))))) := by
  unfold evPtrEq at e
  split at e
  all_goals first | (cases e; done) | skip
  all_goals
    cases e
    cases hx <;> cases hy <;> first
      | (simp only [leafB] at *; done)
      | (refine ⟨?_, fun op xo yo => ?_, rfl, rfl⟩
         · rw [Op.equalIn]
           simp only [Sem.run_bind, run_underlying hu, Result.andThen_ok]
           rfl
         · cases op <;> rfl)

theorem closed_two {x y : Value} (h : (closed x && closed y) = true) : closed x = true ∧ closed y = true := by simpa using h

theorem evBin_sound {P : Program} {ρ : Ren} {op : BinOp} {t : TypeId} {xo yo : Operand} {x x' y y' v : Value} (hx : VR ρ x x') (hy : VR ρ y y') (e : evBin P op t xo yo x y = some v) (w : World) :
    ∃ v', (do eqGuard op t xo yo x' y'; binOp op t x' y' : Sem Value).run P w = .ok v' w ∧ VR ρ v v' := by
  unfold evBin at e
  split at e
  · rename_i hc
    obtain ⟨h1, h2⟩ := closed_two hc
    rw [hx.eq_closed h1, hy.eq_closed h2]
    obtain ⟨r1, r2⟩ := pureRun_sound e w
    exact ⟨v, r1, r2 ρ⟩
  · split at e
    · cases e
    · rename_i d hu
      split at e
      · cases hb : evPtrEq d x y with
        | none => rw [hb] at e; cases e
        | some b =>
          rw [hb] at e
          cases e
          obtain ⟨r1, r2, r3, r4⟩ := evPtrEq_sound hu hx hy hb 9999 w
          refine ⟨.bool b, ?_, .leaf rfl⟩
          simp only [Sem.run_bind, r2, Result.andThen_ok, r3, Op.equal]
          rw [show Op.maxDepth = 9999 + 1 from rfl, r1]
          rfl
      · cases hb : evPtrEq d x y with
        | none => rw [hb] at e; cases e
        | some b =>
          rw [hb] at e
          cases e
          obtain ⟨r1, r2, r3, r4⟩ := evPtrEq_sound hu hx hy hb 9999 w
          refine ⟨.bool !b, ?_, .leaf rfl⟩
          simp only [Sem.run_bind, r2, Result.andThen_ok, r4, Op.equal]
          rw [show Op.maxDepth = 9999 + 1 from rfl, r1]
          rfl
      · cases e

/-! ### the other builtins -/
theorem evLen_sound {P : Program} {base : Nat} {ρ : Ren} {m : Mem} {w : World} (h : Rel P base ρ m w) {t : TypeId} (ty : TypeId) {x x' v : Value} (hx : VR ρ x x') (e : evLen P t m x = some v) :
    ∃ v', (Builtin.len_ #[t] ty #[x']).run P w = .ok v' w ∧ VR ρ v v' := by
  unfold evLen at e
  split at e
  · rename_i el b n c hu
    cases e
    refine ⟨goInt n, ?_, .leaf rfl⟩
    cases hx <;> simp [Builtin.len_, run_underlying hu]
  · rename_i s hu
    cases e
    cases hx
    exact ⟨goInt s.size, by simp [Builtin.len_, run_underlying hu], .leaf rfl⟩
  · rename_i n el hu
    cases e
    exact ⟨goInt n, by simp [Builtin.len_, run_underlying hu], .leaf rfl⟩
  · rename_i k el hu
    split at e
    · rename_i es c hm
      cases e
      rcases mapOf_rel h hx hm with ⟨_, rfl, rfl, rfl⟩ | ⟨r, s, es', _, rfl, _, _, hw, hl⟩
      · exact ⟨goInt 0, by simp [Builtin.len_, run_underlying hu], .leaf rfl⟩
      · have := hl.length
        simp only [Array.length_toList] at this
        exact ⟨goInt es.size, by simp [Builtin.len_, run_underlying hu, getObj_map hw, this], .leaf rfl⟩
    · cases e
  · cases e

theorem evCopy_sound {P : Program} {base : Nat} {ρ : Ren} {m m' : Mem} {w : World} (h : Rel P base ρ m w) {t : TypeId} {ats : Array TypeId} (hat : ats[0]? = some t) (ty : TypeId) {d d' s s' v : Value} (hd : VR ρ d d') (hs : VR ρ s s')
    (e : evCopy P base t m d s = some (v, m')) : Yields P base ρ m w (Builtin.copy_ ats ty #[d', s']) v m' := by
  unfold evCopy at e
  split at e
  · rename_i elem hu
    split at e
    · rename_i sb dLen cap n size hn hsz
      split at e
      · rename_i l hl
        obtain ⟨l', r1, r2⟩ := firstN_sound h hs hl
        have hlen := lenB_run (P := P) hs hn w
        split at e
        · rename_i a
          split at e
          · rename_i hlag
            split at e
            · rename_i m1 hst
              cases e
              obtain ⟨t, c', ht, rfl, _⟩ := vr_slice_inv hd hlag
              obtain ⟨w', q1, q2⟩ := storeN_sound h ht r2 hst
              refine ⟨goInt (Nat.min n dLen), w', ρ, ?_, q2, .leaf rfl⟩
              simp [Builtin.copy_, hat, run_underlying hu, hlen, run_size hsz, r1, q1]
            · cases e
          · cases e
        · split at e
          · rename_i hemp
            cases e
            cases hd
            refine ⟨goInt (Nat.min n dLen), w, ρ, ?_, .refl h, .leaf rfl⟩
            simp [Builtin.copy_, hat, run_underlying hu, hlen, run_size hsz, r1]
          · cases e
      · cases e
    · cases e
  · cases e

theorem zeroCells_list (z : Array Value) (n : Nat) : (Builtin.zeroCells z n).toList = repeatL z.toList n := by
  unfold Builtin.zeroCells
  exact repeatL_eq z n _ rfl

theorem evClear_sound {P : Program} {base : Nat} {ρ : Ren} {m m' : Mem} {w : World} (h : Rel P base ρ m w) {t : TypeId} {ats : Array TypeId} (hat : ats[0]? = some t) (ty : TypeId) {x x' v : Value} (hx : VR ρ x x')
    (e : evClear P base t m x = some (v, m')) : Yields P base ρ m w (Builtin.clear_ ats ty #[x']) v m' := by
  unfold evClear at e
  split at e
  · rename_i d hu
    cases e
    cases hx
    exact ⟨_, w, ρ, by cases d <;> simp [Builtin.clear_, hat, run_underlying hu], .refl h, .tuple .nil⟩
  · rename_i d n c hu
    cases e
    cases hx
    exact ⟨_, w, ρ, by cases d <;> simp [Builtin.clear_, hat, run_underlying hu], .refl h, .tuple .nil⟩
  · rename_i d b c hne hu
    cases e
    cases hx <;> exact ⟨_, w, ρ, by cases d <;> simp [Builtin.clear_, hat, run_underlying hu], .refl h, .tuple .nil⟩
  · rename_i elem a n c hne hu
    split at e
    · rename_i z hz
      split at e
      · rename_i hlag
        split at e
        · rename_i m1 hst
          cases e
          obtain ⟨t, c', ht, rfl, _⟩ := vr_slice_inv hx hlag
          obtain ⟨w', q1, q2⟩ := storeN_sound h ht (vrl_closed ρ (closedA_repeat (closed_cells (zero_closed hz)) n)) hst
          refine ⟨_, w', ρ, ?_, q2, .tuple .nil⟩
          have hn : n ≠ 0 := fun hh => hne hh
          simp only [Builtin.clear_, hat, List.getElem?_toArray, List.getElem?_cons_zero, Sem.run_bind, run_underlying hu, Result.andThen_ok]
          cases n with
          | zero => exact absurd rfl hn
          | succ n => simp only [run_zero hz, Result.andThen_ok, zeroCells_list, q1, Sem.run_pure]
        · cases e
      · cases e
    · cases e
  · cases e

theorem evBuiltin_sound {P : Program} {base : Nat} {ρ : Ren} {m m' : Mem} {w : World} (h : Rel P base ρ m w) {b : Builtin} {ats : Array TypeId} (ty : TypeId) {args : List Value} {args' : Array Value} {v : Value} (ha : VRL ρ args args'.toList)
    (e : evBuiltin P base b ats.toList m args = some (v, m')) : ∃ s : Sem Value, (∀ consts, builtin b ats ty consts args' = (do pure (.value (← s)))) ∧ Yields P base ρ m w s v m' := by
  obtain ⟨args'⟩ := args'
  unfold evBuiltin at e
  split at e
  · rename_i s x
    cases ha with
    | cons h1 ha => cases ha with
      | cons h2 ha => cases ha with
        | nil => exact ⟨_, fun _ => rfl, evAppend_sound h ty h1 h2 e⟩
  · rename_i x
    cases ha with
    | cons h1 ha => cases ha with
      | nil =>
        split at e
        · rename_i t hat
          have hat' : ats = #[t] := by rw [← Array.toArray_toList (xs := ats), hat]
          subst hat'
          split at e
          · rename_i v1 hv
            cases e
            obtain ⟨v', r1, r2⟩ := evLen_sound h ty h1 hv
            exact ⟨_, fun _ => rfl, v', w, ρ, r1, .refl h, r2⟩
          · cases e
        · cases e
  · rename_i d s
    cases ha with
    | cons h1 ha => cases ha with
      | cons h2 ha => cases ha with
        | nil =>
          split at e
          · rename_i t l hat
            have hat' : ats[0]? = some t := by rw [← Array.getElem?_toList, hat]; rfl
            exact ⟨_, fun _ => rfl, evCopy_sound h hat' ty h1 h2 e⟩
          · cases e
  · rename_i x
    cases ha with
    | cons h1 ha => cases ha with
      | nil =>
        split at e
        · rename_i t l hat
          have hat' : ats[0]? = some t := by rw [← Array.getElem?_toList, hat]; rfl
          exact ⟨_, fun _ => rfl, evClear_sound h hat' ty h1 e⟩
        · cases e
  · rename_i x k
    cases ha with
    | cons h1 ha => cases ha with
      | cons h2 ha => cases ha with
        | nil =>
          split at e
          · rename_i t l hat
            have hat' : ats[0]? = some t := by rw [← Array.getElem?_toList, hat]; rfl
            split at e
            · rename_i m1 hm
              cases e
              obtain ⟨w', q1, q2⟩ := evDelete_sound (ty := ty) h hat' h1 h2 hm
              exact ⟨_, fun _ => rfl, _, w', ρ, q1, q2, .tuple .nil⟩
            · cases e
          · cases e
  · rename_i args
    split at e
    · rename_i hc
      split at e
      · rename_i v1 hv
        cases e
        have := VRL.eq_closed ha hc
        simp only at this
        subst this
        obtain ⟨r1, r2⟩ := pureRun_sound hv w
        exact ⟨_, fun _ => rfl, v, w, ρ, r1, .refl h, r2 ρ⟩
      · cases e
    · cases e
  · rename_i args
    split at e
    · rename_i hc
      split at e
      · rename_i v1 hv
        cases e
        have := VRL.eq_closed ha hc
        simp only at this
        subst this
        obtain ⟨r1, r2⟩ := pureRun_sound hv w
        exact ⟨_, fun _ => rfl, v, w, ρ, r1, .refl h, r2 ρ⟩
      · cases e
    · cases e
  · cases e

end Go.Ev
/-
  The evaluator's operations all together, beside the model's.
-/
namespace Go.Ev

/-! ### calls -/
def Enters (P : Program) (g : FuncId) : Prop := ∃ fn, P.funcs[g]? = some fn ∧ fn.body.isNone = false ∧ (fn.name == "runtime.NumGoroutine") = false

theorem run_callFunc {P : Program} {g : FuncId} (h : Enters P g) (args : Array Value) (w : World) : (callFunc g args).run P w = .ok (.enter g args) w := by
  obtain ⟨fn, h1, h2, h3⟩ := h
  simp only [callFunc, Sem.run_bind, run_program, Result.andThen_ok, h1, h2, h3, Bool.false_eq_true, if_false, Sem.run_pure]

/-- A call that comes back with the value, from any world that the memory stands for. -/
def CallsTo (P : Program) (base : Nat) (g : FuncId) (args : List Value) (m : Mem) (v : Value) (m' : Mem) : Prop :=
  ∀ ρ w (args' : Array Value), Rel P base ρ m w → VRL ρ args args'.toList → Calls P g args' w fun e w' => ∃ v' ρ', e = .returned v' ∧ Went P base ρ m w ρ' m' w' ∧ VR ρ' v v'

/-- The same of an operation that calls it. -/
def CallSound (P : Program) (base : Nat) (call : CallF) : Prop :=
  ∀ g args m v m', call g args m = some (v, m') → ∀ ρ w (args' : Array Value), Rel P base ρ m w → VRL ρ args args'.toList → ∀ (o : Oper) (a : Act) (K : Act → World → Prop) (Q : Exit → Act → World → Prop),
    (∀ v' ρ' w', Went P base ρ m w ρ' m' w' → VR ρ' v v' → K (a.put o.dst v') w') → o.upon P a K Q ((callFunc g args').run P w)

theorem callsTo_upon {P : Program} {base : Nat} {g : FuncId} {args : List Value} {m m' : Mem} {v : Value} (h1 : Enters P g) (h2 : CallsTo P base g args m v m') : ∀ ρ w (args' : Array Value), Rel P base ρ m w → VRL ρ args args'.toList → ∀ (o : Oper) (a : Act) (K : Act → World → Prop) (Q : Exit → Act → World → Prop),
    (∀ v' ρ' w', Went P base ρ m w ρ' m' w' → VR ρ' v v' → K (a.put o.dst v') w') → o.upon P a K Q ((callFunc g args').run P w) := fun ρ w args' hr ha o a K Q hK => by
  rw [run_callFunc h1, Oper.upon_enter]
  refine (h2 ρ w args' hr ha).mono fun e w' ⟨v', ρ', he, hw, hv⟩ => ?_
  subst he
  exact hK v' ρ' w' hw hv

theorem vals_sound {P : Program} {base : Nat} {ρ : Ren} {m : Mem} {w : World} {fr : Fr} {a : Act} (hr : Rel P base ρ m w) (hf : FR ρ fr a) : ∀ {l : List Operand} {vs : List Value}, vals fr base l = some vs → VRL ρ vs (l.map a.eval)
  | [], vs, e => by simp only [vals, Option.some.injEq] at e; subst e; exact .nil
  | x :: l, vs, e => by
    simp only [vals] at e
    split at e
    · rename_i v hv
      split at e
      · rename_i r hl
        cases e
        exact .cons (hf.eval hr hv) (vals_sound hr hf hl)
      · cases e
    · cases e

theorem parts_sound {P : Program} {base : Nat} {ρ : Ren} {m : Mem} {w : World} {fr : Fr} {a : Act} (hr : Rel P base ρ m w) (hf : FR ρ fr a) : ∀ {l : List (Nat × Operand)} {vs : List (Nat × Value)}, parts fr base l = some vs → PL ρ vs (l.map fun (i, x) => (i, a.eval x))
  | [], vs, e => by simp only [parts, Option.some.injEq] at e; subst e; exact .nil
  | (i, x) :: l, vs, e => by
    simp only [parts] at e
    split at e
    · rename_i v hv
      split at e
      · rename_i r hl
        cases e
        exact .cons (hf.eval hr hv) (parts_sound hr hf hl)
      · cases e
    · cases e

theorem method_sound {P : Program} {ρ : Ren} {t : TypeId} {v v' : Value} {name : String} {g : FuncId} {rv : Value} (hv : VR ρ v v') (e : methodB P t v name = some (g, rv)) (n : Nat) (w : World) :
    ∃ rv', (method (n + 1) t v' name).run P w = .ok (g, rv') w ∧ VR ρ rv rv' := by
  unfold methodB at e
  split at e
  · rename_i i hi
    split at e
    · rename_i mt hm
      split at e
      · rename_i f el hp hfn hu
        cases e
        refine ⟨v', ?_, hv⟩
        simp [method, typeInfo, hi, hm, hp, follow, hfn, receiverAt, run_underlying hu, Place.get]
      · cases e
      · rename_i f d hne hp hfn hu
        cases e
        refine ⟨v', ?_, hv⟩
        cases d <;> first | (exact absurd rfl (hne _)) | simp [method, typeInfo, hi, hm, hp, follow, hfn, receiverAt, run_underlying hu, Place.get]
      · cases e
    · cases e
  · cases e

theorem upon_yields {P : Program} {base : Nat} {ρ : Ren} {m m' : Mem} {w : World} {s : Sem Value} {v : Value} {o : Oper} {a : Act} {K : Act → World → Prop} {Q : Exit → Act → World → Prop} (hy : Yields P base ρ m w s v m')
    (hK : ∀ v' ρ' w', Went P base ρ m w ρ' m' w' → VR ρ' v v' → K (a.put o.dst v') w') : o.upon P a K Q ((do pure (.value (← s)) : Sem Next).run P w) := by
  obtain ⟨v', w', ρ', h1, h2, h3⟩ := hy
  simp only [Sem.run_bind, h1, Result.andThen_ok, Sem.run_pure, Oper.upon_value]
  exact hK v' ρ' w' h2 h3

theorem upon_call {P : Program} {base : Nat} {ρ : Ren} {m m' : Mem} {w : World} {v : Value} {o : Oper} {a : Act} {K : Act → World → Prop} {Q : Exit → Act → World → Prop} {call : CallF} (hc : CallSound P base call) (hr : Rel P base ρ m w)
    {g : FuncId} {args : List Value} {args' : Array Value} (ha : VRL ρ args args'.toList) (e : call g args m = some (v, m'))
    (hK : ∀ v' ρ' w', Went P base ρ m w ρ' m' w' → VR ρ' v v' → K (a.put o.dst v') w') : o.upon P a K Q ((callFunc g args').run P w) := by
  exact hc g args m v m' e ρ w args' hr ha o a K Q hK

theorem evCallOp_sound {P : Program} {base : Nat} {ρ : Ren} {m m' : Mem} {w : World} {fr : Fr} {a : Act} (hr : Rel P base ρ m w) (hf : FR ρ fr a) {call : CallF} (hc : CallSound P base call) {o : Oper} {c : Call} (ty : TypeId) {v : Value}
    (e : evCallOp P base call fr m c = some (v, m')) {K : Act → World → Prop} {Q : Exit → Act → World → Prop}
    (hK : ∀ v' ρ' w', Went P base ρ m w ρ' m' w' → VR ρ' v v' → K (a.put o.dst v') w') : o.upon P a K Q ((do let d ← resolve a.eval c ty; invoke d.target d.args : Sem Next).run P w) := by
  unfold evCallOp at e
  split at e
  · cases e
  · rename_i args hargs
    have hva := vals_sound hr hf hargs
    have hva' : VRL ρ args (c.args.map a.eval).toList := by simpa using hva
    unfold resolve
    split at e
    · rename_i b hcl
      simp only [hcl, Sem.run_bind, Sem.run_pure, Result.andThen_ok, invoke]
      obtain ⟨s, hs, hy⟩ := evBuiltin_sound hr ty hva' e
      simp only [hs]
      exact upon_yields hy hK
    · rename_i f hcl
      simp only [hcl]
      split at e
      · rename_i g first captured hfv
        have hv := hf.eval hr hfv
        generalize hev : a.eval f = fv at hv
        cases hv with
        | leaf h => simp [leafB] at h
        | func h1 h2 =>
          rename_i first' captured'
          simp only [Deferred.ofValue, Sem.run_bind, Sem.run_pure, Result.andThen_ok, invoke]
          refine upon_call hc hr (args' := first' ++ c.args.map a.eval ++ captured') ?_ e hK
          simp only [Array.toList_append]
          exact (h1.append hva').append h2
      · rename_i name first captured hfv
        have hv := hf.eval hr hfv
        generalize hev : a.eval f = fv at hv
        cases hv with
        | leaf h => simp [leafB] at h
        | func h1 h2 =>
          rename_i first' captured'
          have h3 := h1.append hva'
          split at e
          · rename_i t rv rest hl
            rw [hl] at h3
            split at e
            · rename_i g x hm
              simp only [Deferred.ofValue, Sem.run_bind, Sem.run_pure, Result.andThen_ok, invoke]
              generalize hA : first' ++ c.args.map a.eval = A at *
              have hA' : VRL ρ (.iface t rv :: rest) A.toList := by rw [← hA]; simpa using h3
              obtain ⟨A⟩ := A
              simp only at hA'
              cases hA' with
              | cons hi hrest =>
                rename_i iv rest'
                cases hi with
                | leaf h => simp [leafB] at h
                | iface hi =>
                  rename_i v1
                  obtain ⟨rv', q1, q2⟩ := method_sound hi hm (P.types.size + 99) w
                  have hx : (#[rv'] ++ (⟨.iface t v1 :: rest'⟩ : Array Value).extract 1 (⟨.iface t v1 :: rest'⟩ : Array Value).size).toList = rv' :: rest' := by simp
                  have := upon_call (o := o) (a := a) (K := K) (Q := Q) hc hr (args' := #[rv'] ++ (⟨.iface t v1 :: rest'⟩ : Array Value).extract 1 (⟨.iface t v1 :: rest'⟩ : Array Value).size) (by rw [hx]; exact .cons q2 hrest) e hK
                  simp only [List.getElem?_toArray, List.getElem?_cons_zero, callMethod, Sem.run_bind, run_program, Result.andThen_ok]
                  rw [show P.types.size + Made.depth = P.types.size + 99 + 1 from rfl, q1]
                  exact this
            · cases e
          · cases e
      · cases e
    · rename_i recv name hcl
      simp only [hcl]
      split at e
      · rename_i t rv hfv
        have hv := hf.eval hr hfv
        generalize hev : a.eval recv = fv at hv
        cases hv with
        | leaf h => simp [leafB] at h
        | iface hi =>
          rename_i v1
          split at e
          · rename_i g x hm
            simp only [Sem.run_bind, Sem.run_pure, Result.andThen_ok, invoke]
            obtain ⟨rv', q1, q2⟩ := method_sound hi hm (P.types.size + 99) w
            generalize c.args.map a.eval = A at *
            obtain ⟨A⟩ := A
            have hx : (#[rv'] ++ (#[Value.iface t v1] ++ (⟨A⟩ : Array Value)).extract 1 (#[Value.iface t v1] ++ (⟨A⟩ : Array Value)).size).toList = rv' :: A := by simp
            have := upon_call (o := o) (a := a) (K := K) (Q := Q) hc hr (args' := #[rv'] ++ (#[Value.iface t v1] ++ (⟨A⟩ : Array Value)).extract 1 (#[Value.iface t v1] ++ (⟨A⟩ : Array Value)).size) (by rw [hx]; exact .cons q2 hva') e hK
            have h0 : (#[Value.iface t v1] ++ (⟨A⟩ : Array Value))[0]? = some (.iface t v1) := by simp
            simp only [h0, callMethod, Sem.run_bind, run_program, Result.andThen_ok]
            rw [show P.types.size + Made.depth = P.types.size + 99 + 1 from rfl, q1]
            exact this
          · cases e
      · cases e

end Go.Ev
/-
  One operation of the evaluator's, beside the model's.
-/
namespace Go.Ev

theorem on_some {α : Type} {fr : Fr} {base : Nat} {x : Operand} {f : Value → Option α} {r : α} (e : (match fr.val base x with | some y => f y | none => none) = some r) : ∃ y, fr.val base x = some y ∧ f y = some r := by
  cases h : fr.val base x with
  | none => rw [h] at e; cases e
  | some y => rw [h] at e; exact ⟨y, rfl, e⟩

theorem optV_sound {P : Program} {base : Nat} {ρ : Ren} {m : Mem} {w : World} {fr : Fr} {a : Act} (hr : Rel P base ρ m w) (hf : FR ρ fr a) {x : Option Operand} {y : Option Value} (e : optV fr base x = some y) : x.map a.eval = y ∧ VRO ρ y y := by
  cases x with
  | none => simp only [optV, Option.some.injEq] at e; subst e; exact ⟨rfl, trivial⟩
  | some x =>
    simp only [optV] at e
    split at e
    · rename_i v hv
      split at e
      · rename_i hcl
        cases e
        have := hf.eval hr hv
        exact ⟨congrArg some (this.eq_closed hcl), .of_closed ρ v hcl⟩
      · cases e
    · cases e

theorem v_some {m m' : Mem} {x : Option Value} {v : Value} (e : (match x with | some x => some (x, m) | none => none) = some (v, m')) : x = some v ∧ m' = m := by
  cases x with
  | none => cases e
  | some x => cases e; exact ⟨rfl, rfl⟩

theorem evOp_sound {P : Program} {base : Nat} {ρ : Ren} {m m' : Mem} {w : World} {fr : Fr} {a : Act} (hr : Rel P base ρ m w) (hf : FR ρ fr a) {call : CallF} (hc : CallSound P base call) {o : Oper} {v : Value}
    (e : evOp P base call fr m o = some (v, m')) {K : Act → World → Prop} {Q : Exit → Act → World → Prop}
    (hK : ∀ v' ρ' w', Went P base ρ m w ρ' m' w' → VR ρ' v v' → K (a.put o.dst v') w') : o.wp P a w K Q := by
  have value : ∀ {s : Sem Value} {v' : Value}, m' = m → s.run P w = .ok v' w → VR ρ v v' → o.upon P a K Q ((do pure (.value (← s)) : Sem Next).run P w) := fun hm h1 h2 => by
    subst hm; exact upon_yields (yields_same hr h1 h2) hK
  have unit : ∀ {s : Sem Unit} {w' : World}, v = .tuple #[] → s.run P w = .ok () w' → Went P base ρ m w ρ m' w' → o.upon P a K Q ((do s; pure .skip : Sem Next).run P w) := fun hv h1 h2 => by
    subst hv
    simp only [Sem.run_bind, h1, Result.andThen_ok, Sem.run_pure, Oper.upon_skip]
    exact hK _ ρ _ h2 (vr_undef ρ)
  unfold Oper.wp
  obtain ⟨dst, op, type, pos, after, guard⟩ := o
  cases op <;> simp only [evOp] at e <;> simp only [execOp] <;> first | (cases e; done) | skip
  case move x =>
    obtain ⟨y, hy, e⟩ := on_some e
    cases e
    exact hK _ ρ w (.refl hr) (hf.eval hr hy)
  case assign x =>
    obtain ⟨y, hy, e⟩ := on_some e
    cases e
    exact hK _ ρ w (.refl hr) (hf.eval hr hy)
  case pick c x y =>
    obtain ⟨b, hb, e⟩ := on_some e
    have hvb := hf.eval hr hb
    split at e
    · obtain ⟨z, hz, e⟩ := on_some e
      cases e
      generalize a.eval c = cb at hvb
      cases hvb
      exact hK _ ρ w (.refl hr) (hf.eval hr hz)
    · obtain ⟨z, hz, e⟩ := on_some e
      cases e
      generalize a.eval c = cb at hvb
      cases hvb
      exact hK _ ρ w (.refl hr) (hf.eval hr hz)
    · cases e
  case alloc t =>
    split at e
    · rename_i z hz
      cases e
      exact upon_yields (alloc_sound hr hz) hK
    · cases e
  case box t x =>
    obtain ⟨y, hy, e⟩ := on_some e
    split at e
    · cases e
      exact upon_yields (box_sound hr t (hf.eval hr hy)) hK
    · cases e
  case build t ps =>
    split at e
    · rename_i l hl
      obtain ⟨e, hm⟩ := v_some e
      obtain ⟨v', r1, r2⟩ := build_sound (parts_sound hr hf hl) e w
      have hps : (ps.map fun (i, x) => (i, a.eval x)) = (ps.toList.map fun (i, x) => (i, a.eval x)).toArray := by apply Array.ext'; simp
      rw [hps]
      exact value hm r1 r2
    · cases e
  case buildSlice t n ps =>
    split at e
    · rename_i l elem hl hu
      split at e
      · rename_i size z hs hz
        split at e
        · rename_i hc1
          split at e
          · rename_i cs hcs
            split at e
            · cases e
              have hps : (ps.map fun (i, x) => (i, a.eval x)) = (ps.toList.map fun (i, x) => (i, a.eval x)).toArray := by apply Array.ext'; simp
              rw [hps]
              exact upon_yields (buildSlice_sound hr hu hs hz hc1.1 hc1.2 (parts_sound hr hf hl) hcs) hK
            · cases e
          · cases e
        · cases e
      · cases e
    · cases e
  case load t x =>
    obtain ⟨y, hy, e⟩ := on_some e
    obtain ⟨e, hm⟩ := v_some e
    obtain ⟨v', r1, r2⟩ := evLoad_sound hr (hf.eval hr hy) e
    exact value hm r1 r2
  case store t x y =>
    obtain ⟨x1, hx, e⟩ := on_some e
    obtain ⟨y1, hy, e⟩ := on_some e
    split at e
    · rename_i m1 hm
      cases e
      obtain ⟨w', r1, r2⟩ := evStore_sound hr (hf.eval hr hx) (hf.eval hr hy) hm
      exact unit rfl r1 r2
    · cases e
  case nilCheck x =>
    obtain ⟨y, hy, e⟩ := on_some e
    have hv := hf.eval hr hy
    generalize a.eval x = x' at hv ⊢
    split at e
    · cases e
      cases hv with
      | leaf h => simp [leafB] at h
      | ptr h1 h2 => exact hK _ ρ w (.refl hr) (.ptr h1 h2)
    · cases e
      cases hv with
      | leaf h => simp [leafB] at h
      | iface h1 => exact hK _ ρ w (.refl hr) (.iface h1)
    · cases e
      cases hv with
      | leaf h => simp [leafB] at h
      | func h1 h2 => exact hK _ ρ w (.refl hr) (.func h1 h2)
    · rename_i name first cap
      split at e
      · rename_i t q l hl
        split at e
        · rename_i hok
          cases e
          cases hv with
          | leaf h => simp [leafB] at h
          | func h1 h2 =>
            rename_i first' cap'
            have h1' := h1
            rw [hl] at h1'
            obtain ⟨F⟩ := first'
            simp only at h1'
            cases h1' with
            | cons hi hrest =>
              rename_i iv rest'
              cases hi with
              | leaf h => simp [leafB] at h
              | iface hi =>
                rename_i q'
                unfold nilOk at hok
                split at hok
                · rename_i i el ad hif hu
                  split at hok
                  · rename_i mt hmt
                    split at hok
                    · rename_i f hp hfn
                      have hna : ∀ n, (nilAhead (n + 1) t q' name).run P w = .ok (some false) w := fun n => by
                        simp [nilAhead, typeInfo, hif, hmt, hp, followBlind, hfn]
                      simp only [List.getElem?_toArray, List.getElem?_cons_zero, Sem.run_bind, run_program, Result.andThen_ok]
                      rw [show P.types.size + Made.depth = P.types.size + 99 + 1 from rfl, hna]
                      exact hK _ ρ w (.refl hr) (.func h1 h2)
                    · cases hok
                  · cases hok
                · cases hok
        · cases e
      · cases e
    · cases e
  case binOp op t x y pos =>
    obtain ⟨x1, hx, e⟩ := on_some e
    obtain ⟨y1, hy, e⟩ := on_some e
    obtain ⟨e, hm⟩ := v_some e
    obtain ⟨v', r1, r2⟩ := evBin_sound (hf.eval hr hx) (hf.eval hr hy) e w
    exact value hm r1 r2
  case unOp op t x =>
    obtain ⟨y, hy, e⟩ := on_some e
    split at e
    · rename_i hcl
      obtain ⟨e, hm⟩ := v_some e
      rw [(hf.eval hr hy).eq_closed hcl]
      obtain ⟨r1, r2⟩ := pureRun_sound e w
      exact value hm r1 (r2 ρ)
    · cases e
  case convert s d x =>
    obtain ⟨y, hy, e⟩ := on_some e
    unfold evConvert at e
    split at e
    · rename_i hcl
      obtain ⟨e, hm⟩ := v_some e
      rw [(hf.eval hr hy).eq_closed hcl]
      obtain ⟨r1, r2⟩ := pureRun_sound e w
      exact value hm r1 (r2 ρ)
    · cases e
  case makeInterface t x =>
    obtain ⟨y, hy, e⟩ := on_some e
    split at e
    · cases e
    · rename_i d hne hu
      cases e
      refine value (v' := .iface t (a.eval x)) rfl ?_ (.iface (hf.eval hr hy))
      cases d <;> first | (exact absurd rfl (hne _)) | simp [Instr.makeInterface, run_underlying hu]
    · cases e
  case makeFunc f first cap =>
    split at e
    · rename_i x y hx hy
      cases e
      exact value rfl rfl (.func (by simpa using vals_sound hr hf hx) (by simpa using vals_sound hr hf hy))
    · cases e
  case makeMap t r =>
    split at e
    · cases e
      obtain ⟨w', ρ', h1, h2, h3⟩ := newObj_sound hr (o := .map #[] 0) (o' := .map #[] 0) (.map .nil)
      refine upon_yields ⟨.map (some w.heap.size), w', ρ', ?_, h2, .map h3⟩ hK
      simp [Instr.makeMap, h1]
    · cases e
  case makeSlice t l c =>
    obtain ⟨x1, hx, e⟩ := on_some e
    obtain ⟨y1, hy, e⟩ := on_some e
    exact upon_yields (evMakeSlice_sound hr (hf.eval hr hx) (hf.eval hr hy) e) hK
  case makeChan t l =>
    obtain ⟨x1, hx, e⟩ := on_some e
    have hv := hf.eval hr hx
    generalize a.eval l = x' at hv ⊢
    unfold evMakeChan at e
    split at e
    · rename_i dir elem k n hu
      split at e
      · rename_i bytes hb
        split at e
        · rename_i hcond
          obtain ⟨c1, c2, c3⟩ := hcond
          cases e
          cases hv
          obtain ⟨i, hi, hib⟩ := run_bytes hb
          have hbig : ¬ ((bytes : Int) * n > 2 ^ 48 - 112) := by
            have : (bytes : Int) * n ≤ 2 ^ 16 * 2 ^ 20 := Int.mul_le_mul (by omega) c2 c1 (by omega)
            omega
          have t1 : ¬ (n < 0) := by omega
          have t2 : ¬ (n > IntKind.i64.max) := by simp [IntKind.max, IntKind.bits, IntKind.signed]; omega
          obtain ⟨w', ρ', h1, h2, h3⟩ := newObj_sound hr (o := .chan n.toNat #[] false 0 0 false) (o' := .chan n.toNat #[] false 0 0 false) (.chan .nil)
          refine upon_yields ⟨.chan (some w.heap.size), w', ρ', ?_, h2, .chan h3⟩ hK
          simp only [Instr.makeChan, Sem.run_bind, asInt, asIntOf, Sem.run_pure, Result.andThen_ok, run_underlying hu, typeInfo, run_program, hi, hib, t1, t2, hbig, or_self, if_false, h1]
        · cases e
      · cases e
    · cases e
  case slice t x lo hi mx =>
    obtain ⟨x1, hx, e⟩ := on_some e
    split at e
    · rename_i lo1 hi1 mx1 hlo hhi hmx
      obtain ⟨e, hm⟩ := v_some e
      obtain ⟨l1, l2⟩ := optV_sound hr hf hlo
      obtain ⟨i1, i2⟩ := optV_sound hr hf hhi
      obtain ⟨x1, x2⟩ := optV_sound hr hf hmx
      rw [l1, i1, x1]
      obtain ⟨v', r1, r2⟩ := evSlice_sound (hf.eval hr hx) l2 i2 x2 e (fun _ _ => ⟨rfl, rfl, rfl⟩) w
      exact value hm r1 r2
    · cases e
  case fieldAddr s x f =>
    obtain ⟨x1, hx, e⟩ := on_some e
    obtain ⟨e, hm⟩ := v_some e
    obtain ⟨v', r1, r2⟩ := evField_sound (hf.eval hr hx) e w
    exact value hm r1 r2
  case field t x f =>
    obtain ⟨x1, hx, e⟩ := on_some e
    have hv := hf.eval hr hx
    generalize a.eval x = x' at hv ⊢
    split at e
    · rename_i fields cs hu
      split at e
      · rename_i fd hfd
        obtain ⟨e, hm⟩ := v_some e
        cases hv with
        | leaf h => simp [leafB] at h
        | agg hl =>
          obtain ⟨v', r1, r2⟩ := part_sound hl e w
          refine value hm ?_ r2
          simp [Instr.field, run_underlying hu, hfd, asAgg, r1]
      · cases e
    · cases e
  case indexAddr t x i =>
    obtain ⟨x1, hx, e⟩ := on_some e
    obtain ⟨y1, hy, e⟩ := on_some e
    obtain ⟨e, hm⟩ := v_some e
    obtain ⟨v', r1, r2⟩ := evIndexAddr_sound (hf.eval hr hx) (hf.eval hr hy) e w
    exact value hm r1 r2
  case index t x i =>
    obtain ⟨x1, hx, e⟩ := on_some e
    obtain ⟨y1, hy, e⟩ := on_some e
    have hv := hf.eval hr hx
    have hvi := hf.eval hr hy
    generalize a.eval x = x' at hv ⊢
    generalize a.eval i = i' at hvi ⊢
    split at e
    · rename_i hcl
      obtain ⟨c1, c2⟩ := closed_two hcl
      obtain ⟨e, hm⟩ := v_some e
      rw [hv.eq_closed c1, hvi.eq_closed c2]
      obtain ⟨r1, r2⟩ := pureRun_sound e w
      exact value hm r1 (r2 ρ)
    · rename_i hncl
      clear hncl
      split at e
      · rename_i len elem cs k n hu e1
        split at e
        · rename_i size hs
          split at e
          · rename_i hb
            obtain ⟨e, hm⟩ := v_some e
            cases hvi
            cases hv with
            | leaf h => simp [leafB] at h
            | agg hl =>
              obtain ⟨v', r1, r2⟩ := part_sound hl e w
              refine value hm ?_ r2
              simp [Instr.index, asIntOf, run_underlying hu, hb.1, hb.2, run_size hs, r1]
          · cases e
        · cases e
      · cases e
  case lookup t x k ok =>
    obtain ⟨x1, hx, e⟩ := on_some e
    obtain ⟨y1, hy, e⟩ := on_some e
    obtain ⟨e, hm⟩ := v_some e
    obtain ⟨v', r1, r2⟩ := evLookup_sound hr (hf.eval hr hx) (hf.eval hr hy) e
    exact value hm r1 r2
  case mapUpdate t x k y =>
    obtain ⟨x1, hx, e⟩ := on_some e
    obtain ⟨k1, hk, e⟩ := on_some e
    obtain ⟨y1, hy, e⟩ := on_some e
    split at e
    · rename_i m1 hm
      cases e
      obtain ⟨w', r1, r2⟩ := evMapUpdate_sound hr (hf.eval hr hx) (hf.eval hr hk) (hf.eval hr hy) hm
      exact unit rfl r1 r2
    · cases e
  case insert t x k y =>
    obtain ⟨x1, hx, e⟩ := on_some e
    obtain ⟨k1, hk, e⟩ := on_some e
    obtain ⟨y1, hy, e⟩ := on_some e
    split at e
    · rename_i m1 hm
      cases e
      obtain ⟨w', r1, r2⟩ := evMapUpdate_sound hr (hf.eval hr hx) (hf.eval hr hk) (hf.eval hr hy) hm
      exact unit rfl r1 r2
    · cases e
  case range t x =>
    obtain ⟨x1, hx, e⟩ := on_some e
    exact upon_yields (evRange_sound hr (hf.eval hr hx) e) hK
  case next it s =>
    obtain ⟨x1, hx, e⟩ := on_some e
    exact upon_yields (evNext_sound hr type (hf.eval hr hx) e) hK
  case entry it =>
    obtain ⟨x1, hx, e⟩ := on_some e
    obtain ⟨e, hm⟩ := v_some e
    obtain ⟨v', r1, r2⟩ := evEntry_sound hr (hf.eval hr hx) e
    exact value hm r1 r2
  case extract t i =>
    obtain ⟨x1, hx, e⟩ := on_some e
    have hv := hf.eval hr hx
    generalize a.eval t = x' at hv ⊢
    split at e
    · rename_i vs
      obtain ⟨e, hm⟩ := v_some e
      cases hv with
      | leaf h => simp [leafB] at h
      | tuple hl =>
        obtain ⟨v', r1, r2⟩ := hl.get (i := i) (by simpa using e)
        rw [Array.getElem?_toList] at r1
        refine value hm ?_ r2
        simp only [Instr.extract, r1, Sem.run_pure]
    · cases e
  case call c => exact evCallOp_sound hr hf hc type e hK

end Go.Ev
/-
  The evaluator's regions, code and calls, beside the model's.
-/
namespace Go.Ev

theorem guardB_sound {ρ : Ren} {fr : Fr} {a : Act} (hf : FR ρ fr a) {ops : List Oper} {o : Oper} {b : Bool} (e : guardB ops fr o = some b) : Region.wanted o (yielded ops.toArray a.tmps) = b := by
  unfold guardB at e
  unfold Region.wanted
  cases hg : o.guard with
  | none => rw [hg] at e; simp only [Option.some.injEq] at e; exact e
  | some jw =>
    obtain ⟨j, want⟩ := jw
    rw [hg] at e
    simp only at e ⊢
    have hoj : ops.toArray[j]? = ops[j]? := by simp
    unfold yielded
    rw [hoj]
    cases hj : ops[j]? with
    | none => rw [hj] at e; simp only [Option.some.injEq] at e; subst e; rfl
    | some oj =>
      rw [hj] at e
      simp only [Option.bind_some] at e ⊢
      cases hd : oj.dst with
      | none => rw [hd] at e; simp only [Option.some.injEq] at e; subst e; rfl
      | some d =>
        rw [hd] at e
        simp only [Option.bind_some] at e ⊢
        split at e
        · rename_i hlt
          have hlt' : d < a.tmps.size := by rw [hf.size]; exact hlt
          have hv := hf.val d
          have ht : a.tmps[d]? = some (a.tmps.getD d undef) := by simp [hlt']
          rw [ht]
          generalize a.tmps.getD d undef = x' at hv ⊢
          split at e
          · rename_i b0 hb0
            rw [hb0] at hv
            simp only [Option.getD_some] at hv
            cases hv
            simp only [Option.some.injEq] at e
            subst e
            cases b0 <;> cases want <;> rfl
          · rename_i hne
            simp only [Option.some.injEq] at e
            subst e
            cases x' with
            | bool b1 =>
              cases hget : fr.tm.get d with
              | none => rw [hget] at hv; cases hv
              | some y =>
                rw [hget] at hv
                simp only [Option.getD_some] at hv
                cases hv
                exact absurd hget (hne b1)
            | _ => rfl
        · cases e

theorem evOps_sound {P : Program} {base : Nat} {call : CallF} (hc : CallSound P base call) {ops : List Oper} {fr' : Fr} {m' : Mem} {Q : Exit → Act → World → Prop} : ∀ (l : List Oper) (i : Nat), (∀ j, l[j]? = ops[i + j]?) →
    ∀ {fr : Fr} {m : Mem} {ρ : Ren} {a : Act} {w : World}, Rel P base ρ m w → FR ρ fr a → evOps P base call ops l fr m = some (fr', m') →
    (∀ a' ρ' w', Went P base ρ m w ρ' m' w' → FR ρ' fr' a' → Q .normal a' w') → wpOps P ops.toArray Q (List.range' i l.length) a w
  | [], i, _, fr, m, ρ, a, w, hr, hf, e, hQ => by
    simp only [evOps, Option.some.injEq, Prod.mk.injEq] at e
    obtain ⟨rfl, rfl⟩ := e
    exact hQ a ρ w (.refl hr) hf
  | o :: l, i, hl, fr, m, ρ, a, w, hr, hf, e, hQ => by
    have ho : ops.toArray[i]? = some o := by simpa using (hl 0).symm
    have hl' : ∀ j, l[j]? = ops[i + 1 + j]? := fun j => by have := hl (j + 1); simpa [Nat.add_assoc, Nat.add_comm 1 j] using this
    simp only [List.length_cons, List.range'_succ, wpOps, ho]
    simp only [evOps] at e
    split at e
    · rename_i hg
      rw [guardB_sound hf hg, if_pos rfl]
      split at e
      · rename_i v m1 hop
        split at e
        · rename_i fr1 hput
          refine .inl (evOp_sound hr hf hc hop fun v' ρ' w' hw hv => ?_)
          exact evOps_sound hc l (i + 1) hl' hw.rel ((hf.mono hw.ext).put hv hput) e fun a' ρ2 w2 hw2 hf2 => hQ a' ρ2 w2 (Went.trans hr hw hw2) hf2
        · cases e
      · cases e
    · rename_i hg
      rw [guardB_sound hf hg, if_neg Bool.false_ne_true]
      split at e
      · rename_i fr1 hput
        exact evOps_sound hc l (i + 1) hl' hr (hf.put (vr_undef ρ) hput) e hQ
      · cases e
    · cases e

def Ex.exit' : Ex → Exit
  | .normal => .normal
  | .exit id => .exit id
  | .ret => .ret

/-! ### loops -/
def LoopWp (P : Program) (c : Code) (Q : Exit → Act → World → Prop) (a : Act) (w : World) : Prop :=
  ∀ (b : Frame) (k : List Item) (cs : List Frame), ∃ e a' w', Q e a' w' ∧ Arrives P (lone (b.at a (.code c :: .inLoop c :: k)) cs w) b k cs e a' w'

theorem wp_of_loop {P : Program} {c : Code} {Q : Exit → Act → World → Prop} {a : Act} {w : World} (h : LoopWp P c Q a w) : (Code.loop c).wp P Q a w :=
  fun b k cs => let ⟨e, a', w', q, r⟩ := h b k cs; ⟨e, a', w', q, .of_steps (.one step_loop) r⟩

theorem loop_round {P : Program} {c : Code} {Q : Exit → Act → World → Prop} {a : Act} {w : World} (h : c.wp P (Exit.then (LoopWp P c Q) Q) a w) : LoopWp P c Q a w := by
  intro b k cs
  obtain ⟨e, a₁, w₁, hq, harr⟩ := h b (.inLoop c :: k) cs
  cases e with
  | normal =>
    obtain ⟨e₂, a₂, w₂, hq₂, harr₂⟩ := hq b k cs
    exact ⟨e₂, a₂, w₂, hq₂, .of_steps (Steps.trans harr (.one step_inLoop)) harr₂⟩
  | exit id => exact ⟨_, a₁, w₁, hq, .pass (x := .inLoop c) rfl (fun _ _ => .inl (by simp)) harr⟩
  | goto l => exact ⟨_, a₁, w₁, hq, .pass (x := .inLoop c) rfl (fun _ _ => .inl (by simp)) harr⟩
  | ret => exact ⟨_, a₁, w₁, hq, .pass (x := .inLoop c) rfl (fun _ _ => .inl (by simp)) harr⟩
  | panic ch => exact ⟨_, a₁, w₁, hq, .pass (x := .inLoop c) rfl (fun _ _ => .inl (by simp)) harr⟩
  | outgrown => exact ⟨_, a₁, w₁, hq, .pass (x := .inLoop c) rfl (fun _ _ => .inl (by simp)) harr⟩

/-- What a drawn region is asked for. -/
def DrawnSound (P : Program) (base : Nat) (call : CallF) : Prop :=
  ∀ (ops : List Oper) (fr : Fr) (m : Mem) (fr' : Fr) (m' : Mem), evDrawn P base call ops fr m = some (fr', m') → ∀ (ρ : Ren) (a : Act) (w : World) (Q : Exit → Act → World → Prop), Rel P base ρ m w → FR ρ fr a →
    (∀ a' ρ' w', Went P base ρ m w ρ' m' w' → FR ρ' fr' a' → Q .normal a' w') → wpAny P .any ops.toArray Q ops.toArray.size (Array.replicate ops.toArray.size false) a w

/-! ### a select of one case with a default -/
theorem region_first {P : Program} {id : Nat} {ops : List Oper} {Q : Exit → Act → World → Prop} {a a' : Act} {w w' : World}
    (hstep : ∀ (b : Frame) (k : List Item) (cs : List Frame), step P (lone (b.at a (.inRegion ops.toArray (0 :: List.range' 1 (ops.length - 1)) :: k)) cs w) = .next (lone (b.at a' (.inRegion ops.toArray (List.range' 1 (ops.length - 1)) :: k)) cs w'))
    (hne : ops ≠ []) (h : wpOps P ops.toArray Q (List.range' 1 (ops.length - 1)) a' w') : (Code.region id ops.toArray false).wp P Q a w := by
  intro b k cs
  obtain ⟨e, a2, w2, q, r⟩ := wp_ops _ a' w' h b k cs
  have hr : List.range ops.toArray.size = 0 :: List.range' 1 (ops.length - 1) := by
    cases ops with
    | nil => exact absurd rfl hne
    | cons o l => simp [List.range_eq_range', List.range'_succ]
  refine ⟨e, a2, w2, q, .of_steps (.head step_region ?_) r⟩
  rw [hr]
  exact .one (hstep b k cs)

theorem step_select {P : Program} {ops : List Oper} {o : Oper} {a : Act} {w w' : World} {v : Value} {cc : CommCase} {rest : List Nat} (ho : ops.toArray[0]? = some o) (hg : o.guard = none)
    (hexec : (execOp a.eval o).run P w = .ok (.comm #[cc] false .select) w)
    (hsel : ∀ (fr : Frame) (cs : List Frame) (es : Array Event), stepG P true (Conc.G fr cs) w = .comm (Conc.G fr cs) #[cc] false .select w es → step P (Conc.solo (Conc.G fr cs) w) = .next (Conc.solo (Conc.G (fr.finish v) cs) w')) :
    ∀ (b : Frame) (k : List Item) (cs : List Frame), step P (lone (b.at a (.inRegion ops.toArray (0 :: rest) :: k)) cs w) = .next (lone (b.at (a.put o.dst v) (.inRegion ops.toArray rest :: k)) cs w') := by
  intro b k cs
  have hw : Region.wanted o (yielded ops.toArray a.tmps) = true := by simp [Region.wanted, hg]
  have hG := stepG_op (P := P) (b := b) (k := k) (cs := cs) (w := w) (rest := rest) ho hw
  have hes : ∃ es, stepG P true (Conc.G (b.at a (.inRegion ops.toArray (0 :: rest) :: k)) cs) w = .comm (Conc.G (b.at a (.inRegion ops.toArray (0 :: rest) :: k)) cs) #[cc] false .select w es := by
    unfold Conc.G
    rw [hG]
    simp only [stepG.apply, Sem.runT_eq, if_true, hexec, GStep.after]
    exact ⟨_, rfl⟩
  obtain ⟨es, hes⟩ := hes
  have := hsel _ cs es hes
  have hfin := Frame.finish_at b a ops.toArray 0 rest k v
  rw [ho] at hfin
  simp only [Option.bind_some] at hfin
  rw [hfin] at this
  exact this

theorem evSel_sound {P : Program} {base : Nat} {ρ : Ren} {m m' : Mem} {w : World} {fr : Fr} {a : Act} (hr : Rel P base ρ m w) (hf : FR ρ fr a) {ops : List Oper} {o : Oper} {v : Value} {rest : List Nat} (ho : ops.toArray[0]? = some o)
    (e : evSel P base fr m o = some (v, m')) : ∃ v' w', Went P base ρ m w ρ m' w' ∧ VR ρ v v' ∧
      ∀ (b : Frame) (k : List Item) (cs : List Frame), step P (lone (b.at a (.inRegion ops.toArray (0 :: rest) :: k)) cs w) = .next (lone (b.at (a.put o.dst v') (.inRegion ops.toArray rest :: k)) cs w') := by
  unfold evSel at e
  split at e
  · rename_i cases' hop hg
    split at e
    · rename_i c hcs
      split at e
      · rename_i r z hch hz
        have hvc := hf.eval hr hch
        generalize hce : a.eval c.chan = cv at hvc
        cases hvc with
        | leaf h => simp [leafB] at h
        | chan hs =>
          rename_i s
          split at e
          · rename_i cap buf sn rc tm hbk
            obtain ⟨hsh, o', ho', hor⟩ := obj_rel hr hbk hs
            cases hor with
            | chan hbuf =>
              rename_i buf'
              have hcs' : cases' = #[c] := by rw [← Array.toArray_toList (xs := cases'), hcs]
              have hlt : s.blk < w.heap.size := (Array.getElem?_eq_some_iff.1 ho').1
              split at e
              · rename_i x hsend
                split at e
                · rename_i xv hx
                  split at e
                  · rename_i hcond
                    cases e
                    have hvx := hf.eval hr hx
                    have hlen := hbuf.length
                    simp only [Array.length_toList] at hlen
                    refine ⟨.tuple #[goInt 0, .bool false], w.setChan s.blk cap (buf'.push (a.eval x)) false (sn + 1) rc tm, ?_, .tuple (.cons (.leaf rfl) (.cons (.leaf rfl) .nil)), ?_⟩
                    · refine went_wr hr hcond.1 ⟨_, hbk, by simp⟩ hs ⟨hsh, _, Conc.heap_setChan w _ _ _ _ _ _ _ hlt, .chan ?_⟩ (fun c hc => ?_) (Conc.size_setChan ..) rfl rfl rfl
                      · simp only [Array.toList_push]
                        exact hbuf.append (.cons hvx .nil)
                      · simp only [World.setChan]
                        rw [Array.getElem?_setIfInBounds_ne (Ne.symm hc)]
                    · refine step_select ho hg (cc := Conc.scase s.blk (a.eval x) z) ?_ fun fr cs es h => Conc.step_lone_select_send_room h ho' (by omega)
                      simp only [execOp, hop, hcs', Sem.run_bind, Array.mapM_eq_mapM_toList, List.mapM_cons, List.mapM_nil, Sem.run_map, run_zero hz, Sem.run_pure, Result.andThen_ok, hce, hsend, Option.map_some]
                      rfl
                  · cases e
                · cases e
              · rename_i hsend
                have hzr : (do
                    let cases ← (#[c] : Array SelectCase).mapM fun s => do pure { chan := a.eval s.chan, send := s.send.map a.eval, zero := ← zeroValue s.elem : CommCase }
                    pure (.comm cases false .select) : Sem Next).run P w = .ok (.comm #[Conc.rcase s.blk z] false .select) w := by
                  simp only [Sem.run_bind, Array.mapM_eq_mapM_toList, List.mapM_cons, List.mapM_nil, Sem.run_map, run_zero hz, Sem.run_pure, Result.andThen_ok, hce, hsend, Option.map_none]
                  rfl
                split at e
                · rename_i xv l hb0
                  split at e
                  · rename_i hcond
                    cases e
                    rw [hb0] at hbuf
                    obtain ⟨bl⟩ := buf'
                    simp only at hbuf
                    cases hbuf with
                    | cons hx hl =>
                      rename_i xv' l'
                      refine ⟨.tuple #[goInt 0, .bool true, xv'], w.setChan s.blk cap ((⟨xv' :: l'⟩ : Array Value).extract 1 (⟨xv' :: l'⟩ : Array Value).size) false sn (rc + 1) tm, ?_, .tuple (.cons (.leaf rfl) (.cons (.leaf rfl) (.cons hx .nil))), ?_⟩
                      · refine went_wr hr hcond ⟨_, hbk, by simp⟩ hs ⟨hsh, _, Conc.heap_setChan w _ _ _ _ _ _ _ hlt, .chan ?_⟩ (fun c hc => ?_) (Conc.size_setChan ..) rfl rfl rfl
                        · simpa using hl
                        · simp only [World.setChan]
                          rw [Array.getElem?_setIfInBounds_ne (Ne.symm hc)]
                      · refine step_select ho hg (cc := Conc.rcase s.blk z) ?_ fun fr cs es h => ?_
                        · rw [← hzr]
                          simp only [execOp, hop, hcs']
                        · have := Conc.step_lone_select_recv_buf h ho' (by simp)
                          simpa using this
                  · cases e
                · rename_i hb0
                  cases e
                  rw [hb0] at hbuf
                  obtain ⟨bl⟩ := buf'
                  simp only at hbuf
                  cases hbuf
                  refine ⟨.tuple #[goInt (-1), .bool false, z], w, .refl hr, .tuple (.cons (.leaf rfl) (.cons (.leaf rfl) (.cons (.of_closed ρ z (zero_closed hz)) .nil))), ?_⟩
                  refine step_select ho hg (cc := Conc.rcase s.blk z) ?_ fun fr cs es h => Conc.step_lone_select_default h ho'
                  rw [← hzr]
                  simp only [execOp, hop, hcs']
          · cases e
      · cases e
    · cases e
  · cases e

theorem evReg_sound {P : Program} {base : Nat} {call : CallF} (hc : CallSound P base call) {id : Nat} {ops : List Oper} {fr fr' : Fr} {m m' : Mem} {ρ : Ren} {a : Act} {w : World} {Q : Exit → Act → World → Prop} (hr : Rel P base ρ m w) (hf : FR ρ fr a)
    (e : evReg P base call ops fr m = some (fr', m')) (hQ : ∀ a' ρ' w', Went P base ρ m w ρ' m' w' → FR ρ' fr' a' → Q .normal a' w') : (Code.region id ops.toArray false).wp P Q a w := by
  unfold evReg at e
  split at e
  · simp only [Option.some.injEq, Prod.mk.injEq] at e
    obtain ⟨rfl, rfl⟩ := e
    exact wp_region (hQ a ρ w (.refl hr) hf)
  · rename_i o l
    split at e
    · split at e
      · rename_i v m1 hsel
        split at e
        · rename_i fr1 hput
          obtain ⟨v', w', hw, hv, hst⟩ := evSel_sound hr hf (ops := o :: l) (rest := List.range' 1 ((o :: l).length - 1)) rfl hsel
          refine region_first hst (by simp) ?_
          have := evOps_sound (Q := Q) hc (ops := o :: l) l 1 (fun j => by rw [Nat.add_comm]; rfl) hw.rel ((hf.mono hw.ext).put hv hput) e fun a2 ρ2 w2 h2 hf2 => hQ a2 ρ2 w2 (Went.trans hr hw h2) hf2
          simpa using this
        · cases e
      · cases e
    · refine wp_region ?_
      have := evOps_sound (Q := Q) hc (ops := o :: l) (o :: l) 0 (fun j => by simp) hr hf e hQ
      simpa [List.range_eq_range'] using this

theorem evCode_sound {P : Program} {base : Nat} {call : CallF} (hm : P.follows .mixedOrders = true) (hc : CallSound P base call) (hD : DrawnSound P base call) : ∀ (c : Code) {fr fr' : Fr} {m m' : Mem} {ex : Ex} {ρ : Ren} {a : Act} {w : World} {Q : Exit → Act → World → Prop},
    Rel P base ρ m w → FR ρ fr a → evCode P base call c fr m = some (ex, fr', m') →
    (∀ a' ρ' w', Went P base ρ m w ρ' m' w' → FR ρ' fr' a' → Q ex.exit' a' w') → c.wp P Q a w := by
  intro c
  induction c with
  | skip =>
    intro fr fr' m m' ex ρ a w Q hr hf e hQ
    simp only [evCode, Option.some.injEq, Prod.mk.injEq] at e
    obtain ⟨rfl, rfl, rfl⟩ := e
    exact wp_skip (hQ a ρ w (.refl hr) hf)
  | region id ops drawn =>
    intro fr fr' m m' ex ρ a w Q hr hf e hQ
    simp only [evCode] at e
    obtain ⟨ops⟩ := ops
    cases drawn with
    | false =>
      simp only [Bool.false_eq_true, if_false] at e
      split at e
      · rename_i fr1 m1 h1
        simp only [Option.some.injEq, Prod.mk.injEq] at e
        obtain ⟨rfl, rfl, rfl⟩ := e
        exact evReg_sound hc hr hf h1 hQ
      · cases e
    | true =>
      simp only [if_true] at e
      split at e
      · rename_i fr1 m1 h1
        simp only [Option.some.injEq, Prod.mk.injEq] at e
        obtain ⟨rfl, rfl, rfl⟩ := e
        have hw := went_drew hr (w.drawn + 1)
        exact wp_region_any hm (hD ops fr m fr1 m1 h1 ρ a _ Q hw.rel hf fun a' ρ' w' h2 hf' => hQ a' ρ' w' (Went.trans hr hw h2) hf')
      · cases e
  | seq x y ihx ihy =>
    intro fr fr' m m' ex ρ a w Q hr hf e hQ
    simp only [evCode] at e
    split at e
    · rename_i fr1 m1 h1
      exact wp_seq (ihx hr hf h1 fun a' ρ' w' hw hf' => ihy hw.rel hf' e fun a2 ρ2 w2 hw2 hf2 => hQ a2 ρ2 w2 (Went.trans hr hw hw2) hf2)
    · rename_i hne
      refine wp_seq (ihx hr hf e fun a' ρ' w' hw hf' => ?_)
      cases ex with
      | normal => exact absurd e (hne fr' m')
      | exit id => exact hQ a' ρ' w' hw hf'
      | ret => exact hQ a' ρ' w' hw hf'
  | cond x y z ihy ihz =>
    intro fr fr' m m' ex ρ a w Q hr hf e hQ
    simp only [evCode] at e
    split at e
    · rename_i hx
      have hv := hf.eval hr hx
      refine wp_cond_true ?_ (ihy hr hf e hQ)
      generalize a.eval x = x' at hv ⊢
      cases hv; rfl
    · rename_i hx
      have hv := hf.eval hr hx
      refine wp_cond_false ?_ (ihz hr hf e hQ)
      generalize a.eval x = x' at hv ⊢
      cases hv; rfl
    · cases e
  | block id c ih =>
    intro fr fr' m m' ex ρ a w Q hr hf e hQ
    simp only [evCode] at e
    split at e
    · rename_i id' fr1 m1 h1
      refine wp_block (ih hr hf h1 fun a' ρ' w' hw hf' => ?_)
      split at e
      · rename_i hid
        simp only [Option.some.injEq, Prod.mk.injEq] at e
        obtain ⟨rfl, rfl, rfl⟩ := e
        simp only [Ex.exit', Exit.inBlock, hid, if_true]
        exact hQ a' ρ' w' hw hf'
      · rename_i hid
        simp only [Option.some.injEq, Prod.mk.injEq] at e
        obtain ⟨rfl, rfl, rfl⟩ := e
        simp only [Ex.exit', Exit.inBlock, hid, if_false]
        exact hQ a' ρ' w' hw hf'
    · rename_i hne
      refine wp_block (ih hr hf e fun a' ρ' w' hw hf' => ?_)
      cases ex with
      | normal => exact hQ a' ρ' w' hw hf'
      | exit id => exact absurd e (hne id fr' m')
      | ret => exact hQ a' ρ' w' hw hf'
  | loop c ih =>
    intro fr fr' m m' ex ρ a w Q hr hf e hQ
    simp only [evCode] at e
    refine wp_of_loop ?_
    generalize 100000 = n at e
    induction n generalizing fr m ρ a w with
    | zero => simp [iter] at e
    | succ n ihn =>
      simp only [iter] at e
      split at e
      · rename_i fr1 m1 h1
        exact loop_round (ih hr hf h1 fun a' ρ' w' hw hf' => ihn hw.rel hf' (fun a2 ρ2 w2 hw2 hf2 => hQ a2 ρ2 w2 (Went.trans hr hw hw2) hf2) e)
      · rename_i hne
        refine loop_round (ih hr hf e fun a' ρ' w' hw hf' => ?_)
        cases ex with
        | normal => exact absurd e (hne fr' m')
        | exit id => exact hQ a' ρ' w' hw hf'
        | ret => exact hQ a' ρ' w' hw hf'
  | exit id =>
    intro fr fr' m m' ex ρ a w Q hr hf e hQ
    simp only [evCode, Option.some.injEq, Prod.mk.injEq] at e
    obtain ⟨rfl, rfl, rfl⟩ := e
    exact wp_exit (hQ a ρ w (.refl hr) hf)
  | ret =>
    intro fr fr' m m' ex ρ a w Q hr hf e hQ
    simp only [evCode, Option.some.injEq, Prod.mk.injEq] at e
    obtain ⟨rfl, rfl, rfl⟩ := e
    exact wp_ret (hQ a ρ w (.refl hr) hf)
  | _ => intro fr fr' m m' ex ρ a w Q hr hf e hQ; simp [evCode] at e

/-! ### calls -/
def resOne (a : Act) : ResultVar → Sem Value
  | .tmp t => pure (a.tmps.getD t undef)
  | .cell c t => do loadVar t (← asAddr (a.tmps.getD c undef))

theorem results_eq (fn : Func) (a : Act) : results fn a.tmps = (fn.results.mapM (resOne a) >>= fun vs => pure (if h : vs.size = 1 then vs[0] else .tuple vs)) := by
  have : (fun x : ResultVar => match x with | .tmp t => (pure (a.tmps.getD t undef) : Sem Value) | .cell c t => do loadVar t (← asAddr (a.tmps.getD c undef))) = resOne a := by
    funext x; cases x <;> rfl
  rw [← this]
  rfl

theorem results_sound {P : Program} {base : Nat} {ρ : Ren} {m : Mem} {w : World} {fr : Fr} {a : Act} (hr : Rel P base ρ m w) (hf : FR ρ fr a) : ∀ {l : List ResultVar} {vs : List Value}, resultsB P fr m l = some vs →
    ∃ vs', Sem.run P (l.mapM (resOne a)) w = Result.ok vs' w ∧ VRL ρ vs vs'
  | [], vs, e => by simp only [resultsB, Option.some.injEq] at e; subst e; exact ⟨[], rfl, .nil⟩
  | .tmp t :: l, vs, e => by
    simp only [resultsB] at e
    split at e
    · rename_i r h
      cases e
      obtain ⟨vs', h1, h2⟩ := results_sound hr hf h
      refine ⟨a.tmps.getD t undef :: vs', ?_, .cons (hf.val t) h2⟩
      simp only [List.mapM_cons, Sem.run_bind, resOne, Sem.run_pure, Result.andThen_ok]
      rw [h1]
      rfl
    · cases e
  | .cell c t :: l, vs, e => by
    simp only [resultsB] at e
    split at e
    · rename_i v r hv h
      cases e
      obtain ⟨vs', h1, h2⟩ := results_sound hr hf h
      obtain ⟨v', h3, h4⟩ := evLoad_sound hr (hf.val c) hv
      refine ⟨v' :: vs', ?_, .cons h4 h2⟩
      have h5 : (do loadVar t (← asAddr (a.tmps.getD c undef)) : Sem Value).run P w = .ok v' w := by
        have hvr := hf.val c
        unfold evLoad at hv
        split at hv
        · rename_i ad hx
          have hx' : (fr.tm.get c).getD undef = .pointer (some ad) := hx
          rw [hx'] at hvr
          generalize a.tmps.getD c undef = x' at hvr h3 ⊢
          cases hvr with
          | leaf h => simp [leafB] at h
          | ptr q1 q2 => exact h3
        · cases hv
      have h6 : (resOne a (.cell c t)).run P w = .ok v' w := h5
      simp only [List.mapM_cons, Sem.run_bind, h6, Sem.run_pure, Result.andThen_ok]
      rw [h1]
      rfl
    · cases e

theorem start_fr {ρ : Ren} {args : List Value} {args' : Array Value} (h : VRL ρ args args'.toList) {n : Nat} (hn : ¬ n < args.length) :
    FR ρ { tm := Tr.ofList args 0 .e, n := n } { tmps := args' ++ Array.replicate (n - args'.size) undef, defers := [] } := by
  have hl := h.length
  simp only [Array.length_toList] at hl
  refine ⟨by simp; omega, rfl, fun i => ?_⟩
  rw [Tr.get_ofList]
  by_cases hi : i < args.length
  · rw [if_pos (by omega)]
    obtain ⟨v', h1, h2⟩ := h.get (i := i) (v := args[i]) (by simp [hi])
    rw [Array.getElem?_toList] at h1
    have : (args' ++ Array.replicate (n - args'.size) undef).getD i undef = v' := by
      rw [Array.getD_eq_getD_getElem?, Array.getElem?_append_left (by omega), h1]; rfl
    rw [this]
    simpa [hi] using h2
  · rw [if_neg (by omega)]
    have : (args' ++ Array.replicate (n - args'.size) undef).getD i undef = undef := by
      rw [Array.getD_eq_getD_getElem?, Array.getElem?_append_right (by omega)]
      by_cases h3 : i - args'.size < n - args'.size
      · simp [h3]
      · simp [h3]
    rw [this]
    exact vr_undef ρ

theorem evFn_sound {P : Program} {base : Nat} {call : CallF} (hm : P.follows .mixedOrders = true) (hc : CallSound P base call) (hD : DrawnSound P base call) {f : FuncId} {fn : Func} (hfn : P.funcs[f]? = some fn) {args : List Value} {m m' : Mem} {v : Value}
    (e : evFn P base call fn args m = some (v, m')) : fn.body.isNone = false ∧ CallsTo P base f args m v m' := by
  unfold evFn at e
  split at e
  · cases e
  · rename_i c hb
    refine ⟨by rw [hb]; rfl, fun ρ w args' hr ha => ?_⟩
    split at e
    · cases e
    · rename_i hn
      refine calls_of_wp hfn hb ?_
      have key : ∀ fr1 m1 ex, ex = Ex.normal ∨ ex = Ex.ret → evCode P base call c { tm := Tr.ofList args 0 .e, n := fn.ntmps } m = some (ex, fr1, m1) →
          (match resultsB P fr1 m1 fn.results.toList with | some [v] => some (v, m1) | some vs => some (.tuple vs.toArray, m1) | none => none) = some (v, m') →
          c.wp P (bodyPost P fn fun e w' => ∃ v' ρ', e = .returned v' ∧ Went P base ρ m w ρ' m' w' ∧ VR ρ' v v') { tmps := args' ++ Array.replicate (fn.ntmps - args'.size) undef, defers := [] } w := by
        intro fr1 m1 ex hex h1 h2
        refine evCode_sound hm hc hD c hr (start_fr ha hn) h1 fun a' ρ' w' hw hf => ?_
        have hres : ∀ vs, resultsB P fr1 m1 fn.results.toList = some vs → ∃ vs', (results fn a'.tmps).run P w' = .ok (if h : vs'.length = 1 then vs'[0] else .tuple vs'.toArray) w' ∧ VRL ρ' vs vs' := fun vs hvs => by
          obtain ⟨vs', q1, q2⟩ := results_sound hw.rel hf hvs
          refine ⟨vs', ?_, q2⟩
          simp only [results_eq, Sem.run_bind, Array.mapM_eq_mapM_toList, Sem.run_map]
          rw [q1]
          simp only [Result.andThen_ok, Sem.run_pure]
          congr 1
        have done : ∃ v', (results fn a'.tmps).run P w' = .ok v' w' ∧ m' = m1 ∧ VR ρ' v v' := by
          split at h2
          · rename_i v0 hvs
            cases h2
            obtain ⟨vs', q1, q2⟩ := hres _ hvs
            cases q2 with
            | cons q3 q4 => cases q4 with
              | nil => exact ⟨_, q1, rfl, q3⟩
          · rename_i vs hne hvs
            cases h2
            obtain ⟨vs', q1, q2⟩ := hres _ hvs
            have hl := q2.length
            have : ¬ vs'.length = 1 := fun h => by
              rw [h] at hl
              match vs, hl with
              | [v0], _ => exact hne v0 rfl
            rw [dif_neg this] at q1
            exact ⟨_, q1, rfl, .tuple q2⟩
          · cases h2
        obtain ⟨v', q1, q2, q3⟩ := done
        subst q2
        rcases hex with rfl | rfl <;> exact ⟨hf.defers, v', q1, v', ρ', rfl, hw, q3⟩
      split at e
      · rename_i fr1 m1 h1
        exact key fr1 m1 .normal (.inl rfl) h1 e
      · rename_i fr1 m1 h1
        exact key fr1 m1 .ret (.inr rfl) h1 e
      · cases e

theorem evCall_sound {P : Program} {base : Nat} (hm : P.follows .mixedOrders = true) (hng : ∀ (f : FuncId) (fn : Func), P.funcs[f]? = some fn → (fn.name == "runtime.NumGoroutine") = false) {special : CallF}
    (hs : CallSound P base special) (hD : ∀ call, CallSound P base call → DrawnSound P base call) : ∀ d, CallSound P base (evCall P base special d)
  | 0 => fun g args m v m' e => by simp [evCall] at e
  | d + 1 => fun g args m v m' e => by
    simp only [evCall] at e
    split at e
    · rename_i r hsp
      cases e
      exact hs g args m v m' hsp
    · split at e
      · rename_i fn hfn
        have ih := evCall_sound hm hng hs hD d
        obtain ⟨h1, h2⟩ := evFn_sound hm ih (hD _ ih) hfn e
        exact callsTo_upon ⟨fn, hfn, h1, hng g fn hfn⟩ h2
      · cases e

end Go.Ev
/-
  Regions whose order is drawn: what is needed of the definitions.
-/
namespace Go.Ev

theorem allFrom_spec {α : Type} {p : Nat → α → Bool} : ∀ {l : List α} {k : Nat}, allFrom p k l = true → ∀ {j : Nat} {x : α}, l[j]? = some x → p (k + j) x = true
  | [], _, _, j, x, h => by simp at h
  | y :: l, k, e, j, x, h => by
    simp only [allFrom, Bool.and_eq_true] at e
    cases j with
    | zero => simp at h; subst h; exact e.1
    | succ j => simp at h; have := allFrom_spec e.2 h; rwa [show k + (j + 1) = k + 1 + j by omega]

/-! ### values that are the same -/
theorem optEq_eq {a b : Option Addr} (h : optEq a b = true) : a = b := by
  cases a <;> cases b <;> simp [optEq] at h ⊢
  exact h

mutual
theorem veq_eq : ∀ {v v' : Value}, veq v v' = true → v = v'
  | .bool _, .bool _, h => by simp only [veq, beq_iff_eq] at h; rw [h]
  | .int _ _, .int _ _, h => by simp only [veq, Bool.and_eq_true, decide_eq_true_eq] at h; rw [h.1, h.2]
  | .pointer _, .pointer _, h => by simp only [veq] at h; rw [optEq_eq h]
  | .slice _ _ _, .slice _ _ _, h => by simp only [veq, Bool.and_eq_true] at h; rw [optEq_eq h.1, Nat.eq_of_beq_eq_true h.2.1, Nat.eq_of_beq_eq_true h.2.2]
  | .map none, .map none, _ => rfl
  | .map (some _), .map (some _), h => by simp only [veq] at h; rw [Nat.eq_of_beq_eq_true h]
  | .chan (some _), .chan (some _), h => by simp only [veq] at h; rw [Nat.eq_of_beq_eq_true h]
  | .nilFunc, .nilFunc, _ => rfl
  | .func (.func _) ⟨_⟩ ⟨_⟩, .func (.func _) ⟨_⟩ ⟨_⟩, h => by
    simp only [veq, Bool.and_eq_true] at h
    rw [Nat.eq_of_beq_eq_true h.1, veqA_eq h.2.1, veqA_eq h.2.2]
  | .string _, .string _, h => by simp only [veq, decide_eq_true_eq] at h; rw [h]
  | .nilIface, .nilIface, _ => rfl
  | .iface _ _, .iface _ _, h => by simp only [veq, Bool.and_eq_true] at h; rw [Nat.eq_of_beq_eq_true h.1, veq_eq h.2]
  | .agg ⟨_⟩, .agg ⟨_⟩, h => by simp only [veq] at h; rw [veqA_eq h]
  | .tuple ⟨_⟩, .tuple ⟨_⟩, h => by simp only [veq] at h; rw [veqA_eq h]
theorem veqA_eq : ∀ {l l' : List Value}, veqA l l' = true → l = l'
  | [], [], _ => rfl
  | _ :: _, _ :: _, h => by simp only [veqA, Bool.and_eq_true] at h; rw [veq_eq h.1, veqA_eq h.2]
end

/-! ### frames that look alike to an operation -/
def Like (ops : List Oper) (g fr : Fr) (o : Oper) : Prop := g.n = fr.n ∧ ∀ t ∈ looks ops o, (g.tm.get t).getD undef = (fr.tm.get t).getD undef

theorem like_val {base : Nat} {ops : List Oper} {g fr : Fr} {o : Oper} (h : Like ops g fr o) {x : Operand} (hx : x ∈ o.op.operands) : g.val base x = fr.val base x := by
  cases x with
  | tmp t =>
    have : t ∈ looks ops o := List.mem_append_left _ (List.mem_filterMap.2 ⟨.tmp t, by simpa using hx, rfl⟩)
    simp only [Fr.val]
    exact congrArg some (h.2 t this)
  | _ => rfl

theorem like_guard {ops : List Oper} {g fr : Fr} {o : Oper} (h : Like ops g fr o) : guardB ops g o = guardB ops fr o := by
  unfold guardB
  cases hg : o.guard with
  | none => rfl
  | some jw =>
    obtain ⟨j, want⟩ := jw
    simp only
    cases hj : ops[j]? with
    | none => rfl
    | some oj =>
      simp only
      cases hd : oj.dst with
      | none => rfl
      | some d =>
        have hl : d ∈ looks ops o := List.mem_append_right _ (by simp [hg, hj, hd])
        have hv := h.2 d hl
        simp only [h.1]
        split
        · cases h1 : g.tm.get d with
          | none =>
            rw [h1] at hv
            simp only [Option.getD_none] at hv
            cases h2 : fr.tm.get d with
            | none => rfl
            | some y => rw [h2] at hv; simp only [Option.getD_some] at hv; subst hv; rfl
          | some x =>
            rw [h1] at hv
            simp only [Option.getD_some] at hv
            cases h2 : fr.tm.get d with
            | none => rw [h2] at hv; simp only [Option.getD_none] at hv; subst hv; rfl
            | some y => rw [h2] at hv; simp only [Option.getD_some] at hv; subst hv; rfl
        · rfl

theorem vals_congr {base : Nat} {g fr : Fr} : ∀ {l : List Operand}, (∀ x ∈ l, g.val base x = fr.val base x) → vals g base l = vals fr base l
  | [], _ => rfl
  | x :: l, h => by
    simp only [vals, h x (List.mem_cons_self ..)]
    rw [vals_congr fun y hy => h y (List.mem_cons_of_mem _ hy)]
theorem parts_congr {base : Nat} {g fr : Fr} : ∀ {l : List (Nat × Operand)}, (∀ x ∈ l.map (·.2), g.val base x = fr.val base x) → parts g base l = parts fr base l
  | [], _ => rfl
  | (i, x) :: l, h => by
    simp only [parts, h x (by simp)]
    rw [parts_congr fun y hy => h y (by simp only [List.map_cons, List.mem_cons]; exact .inr hy)]

theorem evOp_like {P : Program} {base : Nat} {call : CallF} {ops : List Oper} {g fr : Fr} {m : Mem} {o : Oper} (h : Like ops g fr o) : evOp P base call g m o = evOp P base call fr m o := by
  have hv : ∀ x ∈ o.op.operands, g.val base x = fr.val base x := fun x hx => like_val h hx
  clear h
  obtain ⟨dst, op, type, pos, after, guard⟩ := o
  cases op <;> simp only [Op.operands] at hv <;> simp only [evOp]
  case build t ps => rw [parts_congr fun x hx => hv x (by simpa using hx)]
  case buildSlice t n ps => rw [parts_congr fun x hx => hv x (by simpa using hx)]
  case makeFunc fn first captured =>
    rw [vals_congr (l := first.toList) fun x hx => hv x (by simp at hx; simp [hx]), vals_congr (l := captured.toList) fun x hx => hv x (by simp at hx; simp [hx])]
  case slice t x lo hi mx =>
    have hx : g.val base x = fr.val base x := hv x (by simp)
    have h1 : optV g base lo = optV fr base lo := by
      cases lo with
      | none => rfl
      | some y => simp only [optV, hv y (by simp)]
    have h2 : optV g base hi = optV fr base hi := by
      cases hi with
      | none => rfl
      | some y => simp only [optV, hv y (by simp)]
    have h3 : optV g base mx = optV fr base mx := by
      cases mx with
      | none => rfl
      | some y => simp only [optV, hv y (by simp)]
    rw [hx, h1, h2, h3]
  case call c =>
    have ha : vals g base c.args.toList = vals fr base c.args.toList := vals_congr fun x hx => hv x (by simp at hx; simp [Call.operands, hx])
    unfold evCallOp
    rw [ha]
    cases hc : c.callee with
    | value f => simp only [hv f (by simp [Call.operands, hc])]
    | invoke r n => simp only [hv r (by simp [Call.operands, hc])]
    | builtin b => rfl
  all_goals first | rfl | (simp_all; done)

/-! ### what is quiet turns nothing -/
theorem quiet_same {P : Program} {base : Nat} {call : CallF} {fr : Fr} {m m' : Mem} {o : Oper} {v : Value} (hk : kindOf o = .quiet) (e : evOp P base call fr m o = some (v, m')) : m' = m := by
  obtain ⟨dst, op, type, pos, after, guard⟩ := o
  cases op <;> simp only [evOp] at e <;> first | (cases e; done) | (cases hk; done) | skip
  case call c =>
    unfold kindOf at hk
    simp only at hk
    unfold evCallOp at e
    split at e
    · cases e
    · split at e
      · rename_i b hb
        rw [hb] at hk
        unfold evBuiltin at e
        split at e
        all_goals first
          | (cases e; done)
          | (cases hk; done)
          | (repeat' (split at e)
             all_goals first | (cases e; done) | (cases e; rfl))
      · rename_i f hb
        rw [hb] at hk
        cases hk
      · rename_i r n hb
        rw [hb] at hk
        cases hk
  case makeMap t r =>
    unfold kindOf at hk
    cases r <;> cases hk
  case convert s d x =>
    unfold evConvert at e
    repeat' (split at e)
    all_goals first | (cases e; done) | (cases e; rfl)
  all_goals
    repeat' (split at e)
    all_goals first | (cases e; done) | (cases e; rfl)

end Go.Ev
/-
  Regions whose order is drawn: what must be ahead of what, and the run in the text's order.
-/
namespace Go.Ev

/-! ### what must be ahead -/
theorem masks_spec : ∀ (l : List Oper) (acc : List Nat), (masks l acc).length = acc.length + l.length ∧ (masks l acc).take acc.length = acc ∧
    ∀ k o, l[k]? = some o → (masks l acc).getD (acc.length + k) 0 = maskOf ((masks l acc).take (acc.length + k)) o
  | [], acc => ⟨by simp [masks], by simp [masks], fun k o h => by simp at h⟩
  | o :: l, acc => by
    obtain ⟨h1, h2, h3⟩ := masks_spec l (acc ++ [maskOf acc o])
    simp only [masks]
    simp only [List.length_append, List.length_cons, List.length_nil] at h1 h2 h3
    have hpre : (masks l (acc ++ [maskOf acc o])).take acc.length = acc := by
      have := congrArg (List.take acc.length) h2
      rw [List.take_take] at this
      simpa [show min acc.length (acc.length + 1) = acc.length by omega] using this
    refine ⟨by rw [h1]; simp only [List.length_cons]; omega, hpre, fun k o' hk => ?_⟩
    cases k with
    | zero =>
      simp at hk
      subst hk
      rw [Nat.add_zero, hpre]
      have := congrArg (fun x => x[acc.length]?) h2
      simp only [List.getElem?_take] at this
      rw [if_pos (by omega)] at this
      simp only [List.getD_eq_getElem?_getD, this]
      simp
    | succ k =>
      simp at hk
      have := h3 k o' hk
      rwa [show acc.length + 1 + k = acc.length + (k + 1) by omega] at this

theorem maskOf_bit {acc : List Nat} {o : Oper} {i : Nat} (h : Nat.testBit (maskOf acc o) i = true) : ∃ e ∈ o.after, Region.binds .any e = true ∧ (e.on = i ∨ Nat.testBit (acc.getD e.on 0) i = true) := by
  have key : ∀ (l : List Edge) (b : Nat), Nat.testBit (l.foldl (fun b e => if Region.binds .any e then b ||| 2 ^ e.on ||| acc.getD e.on 0 else b) b) i = true →
      Nat.testBit b i = true ∨ ∃ e ∈ l, Region.binds .any e = true ∧ (e.on = i ∨ Nat.testBit (acc.getD e.on 0) i = true) := by
    intro l
    induction l with
    | nil => intro b h; exact .inl h
    | cons e l ih =>
      intro b h
      simp only [List.foldl_cons] at h
      rcases ih _ h with h1 | ⟨e', h2, h3⟩
      · by_cases hb : Region.binds .any e = true
        · rw [if_pos hb] at h1
          simp only [Nat.testBit_or, Bool.or_eq_true, Nat.testBit_two_pow, decide_eq_true_eq] at h1
          rcases h1 with (h1 | h1) | h1
          · exact .inl h1
          · exact .inr ⟨e, List.mem_cons_self .., hb, .inl h1⟩
          · exact .inr ⟨e, List.mem_cons_self .., hb, .inr h1⟩
        · rw [if_neg hb] at h1
          exact .inl h1
      · exact .inr ⟨e', List.mem_cons_of_mem _ h2, h3⟩
  rcases key _ _ h with h1 | ⟨e, h2, h3⟩
  · simp at h1
  · exact ⟨e, by simpa using h2, h3⟩

structure RegionOk (ops : List Oper) : Prop where
  back : ∀ j o, ops[j]? = some o → ∀ e ∈ o.after, Region.binds .any e = true → e.on < j
  pair : ∀ i j oi oj, ops[i]? = some oi → ops[j]? = some oj → i < j → pairOk ops (masks ops []) i oi j oj = true ∧ apartB oi oj = true
  noSel : ∀ (j : Nat) (o : Oper) cs b, ops[j]? = some o → o.op ≠ .select cs b

theorem regionOk_spec {ops : List Oper} (h : regionOk ops = true) : RegionOk ops := by
  simp only [regionOk, Bool.and_eq_true] at h
  obtain ⟨h1, h2⟩ := h
  refine ⟨fun j o hj e he hb => ?_, fun i j oi oj hi hj hij => ?_, fun j o cs b hj hop => ?_⟩
  · have := allFrom_spec h1 hj
    simp only [Bool.and_eq_true, List.all_eq_true, Bool.or_eq_true, Bool.not_eq_true'] at this
    have := this.1 e (by simpa using he)
    rcases this with h | h
    · rw [hb] at h; cases h
    · rw [Nat.blt_eq] at h
      omega
  · have h3 := allFrom_spec h1 hi
    simp only [Bool.and_eq_true] at h3
    have h4 := allFrom_spec h3.2 hj
    simp only [Nat.zero_add, Bool.or_eq_true, Bool.not_eq_true', Bool.and_eq_true] at h4
    rcases h4 with h | h
    · have : Nat.blt i j = true := by rw [Nat.blt_eq]; exact hij
      rw [this] at h; cases h
    · exact h
  · have := List.all_eq_true.1 h2 o (List.mem_of_getElem? hj)
    rw [hop] at this
    cases this

theorem mask_back {ops : List Oper} (hok : RegionOk ops) {j i : Nat} {o : Oper} (hj : ops[j]? = some o) (h : Nat.testBit ((masks ops []).getD j 0) i = true) :
    ∃ e ∈ o.after, Region.binds .any e = true ∧ (e.on = i ∨ Nat.testBit ((masks ops []).getD e.on 0) i = true) := by
  have := (masks_spec ops []).2.2 j o hj
  simp only [List.length_nil, Nat.zero_add] at this
  rw [this] at h
  obtain ⟨e, h1, h2, h3⟩ := maskOf_bit h
  refine ⟨e, h1, h2, ?_⟩
  have hlt := hok.back j o hj e h1 h2
  rcases h3 with h3 | h3
  · exact .inl h3
  · refine .inr ?_
    simpa [List.getD_eq_getElem?_getD, List.getElem?_take, hlt] using h3

/-- What is listed contains all that must be ahead of it. -/
theorem mask_listed {ops : List Oper} (hok : RegionOk ops) {S : Nat → Prop} (hcl : ∀ j o, ops[j]? = some o → S j → ∀ e ∈ o.after, Region.binds .any e = true → S e.on) :
    ∀ (n j : Nat), j < n → j < ops.length → S j → ∀ i, Nat.testBit ((masks ops []).getD j 0) i = true → S i
  | 0, _, h, _, _, _, _ => absurd h (by omega)
  | n + 1, j, hn, hl, hS, i, h => by
    have hj : ops[j]? = some ops[j] := by simp [hl]
    obtain ⟨e, h1, h2, h3⟩ := mask_back hok hj h
    have hlt := hok.back j _ hj e h1 h2
    have hSe := hcl j _ hj hS e h1 h2
    rcases h3 with h3 | h3
    · exact h3 ▸ hSe
    · exact mask_listed hok hcl n e.on (by omega) (by omega) hSe i h3

/-! ### the run in the text's order -/
structure Step (P : Program) (base : Nat) (call : CallF) (ops : List Oper) (n0 : Nat) (M : Nat → Mem) (F : Nat → Fr) (V : Nat → Value) (W : Nat → Bool) (C : Nat → Nat) (j : Nat) (o : Oper) : Prop where
  guard : guardB ops (F j) o = some (W j)
  put : (F j).put o.dst (V j) = some (F (j + 1))
  skip : W j = false → V j = .tuple #[] ∧ M (j + 1) = M j
  quiet : W j = true → kindOf o = .quiet → M (j + 1) = M j ∧ ∃ m', evOp P base call (F j) (M (C j)) o = some (V j, m')
  chain : W j = true → kindOf o = .chain → evOp P base call (F j) (M j) o = some (V j, M (j + 1))
  float : W j = true → kindOf o = .float → V j = fvalOf o (n0 + j) ∧ ∃ k, fblkOf P o = some k ∧ M (j + 1) = { M j with blks := (M j).blks.set (n0 + j) k }

theorem Step.of_eq {P : Program} {base : Nat} {call : CallF} {ops : List Oper} {n0 : Nat} {M : Nat → Mem} {F F' : Nat → Fr} {V V' : Nat → Value} {W W' : Nat → Bool} {C C' : Nat → Nat} {j : Nat} {o : Oper}
    (h : Step P base call ops n0 M F V W C j o) (h1 : F' j = F j) (h2 : F' (j + 1) = F (j + 1)) (h3 : V' j = V j) (h4 : W' j = W j) (h5 : C' j = C j) : Step P base call ops n0 M F' V' W' C' j o where
  guard := by rw [h1, h4]; exact h.guard
  put := by rw [h1, h2, h3]; exact h.put
  skip := by rw [h3, h4]; exact h.skip
  quiet := by rw [h1, h3, h4, h5]; exact h.quiet
  chain := by rw [h1, h3, h4]; exact h.chain
  float := by rw [h3, h4]; exact h.float

structure Lex (P : Program) (base : Nat) (call : CallF) (ops : List Oper) (n0 : Nat) (l : List Oper) (i : Nat) (r : List St) (M : Nat → Mem) (F : Nat → Fr) (V : Nat → Value) (W : Nat → Bool) (C : Nat → Nat) : Prop where
  len : r.length = l.length
  st : ∀ k, k < l.length → r[k]? = some ⟨F (i + k), W (i + k), V (i + k), M (i + k + 1), C (i + k)⟩
  step : ∀ k o, l[k]? = some o → Step P base call ops n0 M F V W C (i + k) o

theorem lex_cons {P : Program} {base : Nat} {call : CallF} {ops : List Oper} {n0 : Nat} {o : Oper} {l : List Oper} {i : Nat} {r : List St} {M Mp : Nat → Mem} {F : Nat → Fr} {V : Nat → Value} {W : Nat → Bool} {C : Nat → Nat} {fr fr1 fr' : Fr} {m1 m' : Mem} {w : Bool} {v : Value} {c : Nat}
    (hM : ∀ j, j ≤ i + 1 → M j = (if j ≤ i then Mp j else m1)) (hF : F (i + 1) = fr1) (hFe : F (i + 1 + l.length) = fr') (hMe : M (i + 1 + l.length) = m') (h : Lex P base call ops n0 l (i + 1) r M F V W C)
    (hs : ∀ (F' : Nat → Fr) (V' : Nat → Value) (W' : Nat → Bool) (C' : Nat → Nat), F' i = fr → F' (i + 1) = fr1 → V' i = v → W' i = w → C' i = c → Step P base call ops n0 M F' V' W' C' i o) :
    ∃ (M : Nat → Mem) (F : Nat → Fr) (V : Nat → Value) (W : Nat → Bool) (C : Nat → Nat), (∀ j, j ≤ i → M j = Mp j) ∧ F i = fr ∧ F (i + (o :: l).length) = fr' ∧ M (i + (o :: l).length) = m' ∧
      Lex P base call ops n0 (o :: l) i (⟨fr, w, v, m1, c⟩ :: r) M F V W C := by
  have ne : ∀ k, ¬ (i + 1 + k = i) := fun k => by omega
  refine ⟨M, fun j => if j = i then fr else F j, fun j => if j = i then v else V j, fun j => if j = i then w else W j, fun j => if j = i then c else C j,
    fun j hj => by rw [hM j (by omega), if_pos hj], by simp, ?_, ?_, ⟨by simp [h.len], fun k hk => ?_, fun k o' hk => ?_⟩⟩
  · simp only [List.length_cons]
    rw [if_neg (by omega), show i + (l.length + 1) = i + 1 + l.length by omega, hFe]
  · simp only [List.length_cons]
    rw [show i + (l.length + 1) = i + 1 + l.length by omega, hMe]
  · cases k with
    | zero =>
      have : M (i + 1) = m1 := by rw [hM (i + 1) (Nat.le_refl _), if_neg (by omega)]
      simp [this]
    | succ k =>
      simp only [List.length_cons] at hk
      have := h.st k (by omega)
      simp only [List.getElem?_cons_succ, this]
      rw [show i + (k + 1) = i + 1 + k by omega]
      simp only [if_neg (ne k)]
  · cases k with
    | zero =>
      simp at hk
      subst hk
      exact hs _ _ _ _ (by simp) (by simp [hF]) (by simp) (by simp) (by simp)
    | succ k =>
      simp at hk
      rw [show i + (k + 1) = i + 1 + k by omega]
      exact (h.step k o' hk).of_eq (by simp only [if_neg (ne k)]) (by rw [if_neg (by omega)]) (by simp only [if_neg (ne k)]) (by simp only [if_neg (ne k)]) (by simp only [if_neg (ne k)])

theorem lex_spec {P : Program} {base : Nat} {call : CallF} {ops : List Oper} {n0 : Nat} : ∀ (l : List Oper) (i : Nat) (fr : Fr) (c : Nat) (mb m : Mem) (r : List St) (fr' : Fr) (m' : Mem) (Mp : Nat → Mem),
    lexRun P base call ops n0 l i fr c mb m = some (r, fr', m') → Mp c = mb → Mp i = m → c ≤ i →
    ∃ (M : Nat → Mem) (F : Nat → Fr) (V : Nat → Value) (W : Nat → Bool) (C : Nat → Nat), (∀ j, j ≤ i → M j = Mp j) ∧ F i = fr ∧ F (i + l.length) = fr' ∧ M (i + l.length) = m' ∧ Lex P base call ops n0 l i r M F V W C
  | [], i, fr, c, mb, m, r, fr', m', Mp, e, h1, h2, h3 => by
    simp only [lexRun, Option.some.injEq, Prod.mk.injEq] at e
    obtain ⟨rfl, rfl, rfl⟩ := e
    exact ⟨Mp, fun _ => fr, fun _ => .tuple #[], fun _ => false, fun _ => 0, fun _ _ => rfl, rfl, rfl, h2, ⟨rfl, fun k hk => absurd hk (by simp), fun k o hk => by simp at hk⟩⟩
  | o :: l, i, fr, c, mb, m, r, fr', m', Mp, e, h1, h2, h3 => by
    simp only [lexRun] at e
    split at e
    · cases e
    · rename_i hg
      split at e
      · cases e
      · rename_i fr1 hput
        split at e
        · rename_i r1 z hrec
          simp only [Option.some.injEq, Prod.mk.injEq] at e
          obtain ⟨rfl, rfl⟩ := e
          obtain ⟨M, F, V, W, C, q1, q2, q3, q4, q5⟩ := lex_spec l (i + 1) fr1 c mb m r1 fr' m' (fun j => if j ≤ i then Mp j else m) hrec (by simp only [if_pos h3]; exact h1) (by rw [if_neg (by omega)]) (by omega)
          refine lex_cons q1 q2 q3 q4 q5 fun F' V' W' C' p1 p2 p3 p4 p5 => ⟨by rw [p1, p4]; exact hg, by rw [p1, p2, p3]; exact hput, fun _ => ⟨p3, ?_⟩, ?_, ?_, ?_⟩
          · rw [q1 (i + 1) (Nat.le_refl _), q1 i (by omega), if_neg (by omega), if_pos (Nat.le_refl _), h2]
          all_goals (intro hw; rw [p4] at hw; cases hw)
        · cases e
    · rename_i hg
      split at e
      · rename_i hk
        split at e
        · cases e
        · rename_i v mx hop
          split at e
          · cases e
          · rename_i fr1 hput
            split at e
            · rename_i r1 z hrec
              simp only [Option.some.injEq, Prod.mk.injEq] at e
              obtain ⟨rfl, rfl⟩ := e
              obtain ⟨M, F, V, W, C, q1, q2, q3, q4, q5⟩ := lex_spec l (i + 1) fr1 c mb m r1 fr' m' (fun j => if j ≤ i then Mp j else m) hrec (by simp only [if_pos h3]; exact h1) (by rw [if_neg (by omega)]) (by omega)
              refine lex_cons q1 q2 q3 q4 q5 fun F' V' W' C' p1 p2 p3 p4 p5 => ⟨by rw [p1, p4]; exact hg, by rw [p1, p2, p3]; exact hput, ?_, fun _ _ => ⟨?_, mx, ?_⟩, ?_, ?_⟩
              · intro hw; rw [p4] at hw; cases hw
              · rw [q1 (i + 1) (Nat.le_refl _), q1 i (by omega), if_neg (by omega), if_pos (Nat.le_refl _), h2]
              · rw [p1, p3, p5, q1 c (by omega), if_pos h3, h1]; exact hop
              · intro _ hk'; rw [hk] at hk'; cases hk'
              · intro _ hk'; rw [hk] at hk'; cases hk'
            · cases e
      · rename_i hk
        split at e
        · cases e
        · rename_i v m1 hop
          split at e
          · cases e
          · rename_i fr1 hput
            split at e
            · rename_i r1 z hrec
              simp only [Option.some.injEq, Prod.mk.injEq] at e
              obtain ⟨rfl, rfl⟩ := e
              obtain ⟨M, F, V, W, C, q1, q2, q3, q4, q5⟩ := lex_spec l (i + 1) fr1 (i + 1) m1 m1 r1 fr' m' (fun j => if j ≤ i then Mp j else m1) hrec (by rw [if_neg (by omega)]) (by rw [if_neg (by omega)]) (by omega)
              refine lex_cons q1 q2 q3 q4 q5 fun F' V' W' C' p1 p2 p3 p4 p5 => ⟨by rw [p1, p4]; exact hg, by rw [p1, p2, p3]; exact hput, ?_, ?_, fun _ _ => ?_, ?_⟩
              · intro hw; rw [p4] at hw; cases hw
              · intro _ hk'; rw [hk] at hk'; cases hk'
              · rw [p1, p3, q1 i (by omega), if_pos (Nat.le_refl _), h2, q1 (i + 1) (Nat.le_refl _), if_neg (by omega)]; exact hop
              · intro _ hk'; rw [hk] at hk'; cases hk'
            · cases e
      · rename_i hk
        split at e
        · cases e
        · rename_i k hop
          split at e
          · cases e
          · rename_i fr1 hput
            split at e
            · rename_i r1 z hrec
              simp only [Option.some.injEq, Prod.mk.injEq] at e
              obtain ⟨rfl, rfl⟩ := e
              obtain ⟨M, F, V, W, C, q1, q2, q3, q4, q5⟩ := lex_spec l (i + 1) fr1 c mb { m with blks := m.blks.set (n0 + i) k } r1 fr' m' (fun j => if j ≤ i then Mp j else { m with blks := m.blks.set (n0 + i) k }) hrec (by simp only [if_pos h3]; exact h1) (by rw [if_neg (by omega)]) (by omega)
              refine lex_cons q1 q2 q3 q4 q5 fun F' V' W' C' p1 p2 p3 p4 p5 => ⟨by rw [p1, p4]; exact hg, by rw [p1, p2, p3]; exact hput, ?_, ?_, ?_, fun _ _ => ⟨p3, k, hop, ?_⟩⟩
              · intro hw; rw [p4] at hw; cases hw
              · intro _ hk'; rw [hk] at hk'; cases hk'
              · intro _ hk'; rw [hk] at hk'; cases hk'
              · rw [q1 (i + 1) (Nat.le_refl _), q1 i (by omega), if_neg (by omega), if_pos (Nat.le_refl _), h2]
            · cases e

end Go.Ev
