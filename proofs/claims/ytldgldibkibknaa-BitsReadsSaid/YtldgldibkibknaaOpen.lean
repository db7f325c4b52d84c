/-
  From a row's reading of its arguments to the words of the walks: a slice of puts.
-/
import Derived.Test.YtldgldibkibknaaRowBase
import Derived.Test.YtldgldibkibknaaPuts
import Derived.Deep.Fields
import Derived.Deep.Slices
namespace Go.Proofs.Ytldgldibkibknaa
open Go.ChangeShapes Go.WideShapes Go.ChangeAt Go.RowKit Go.Deep

section
variable {H : Type} {enc : TypeId × Value → H} {w : World} {base : Nat} {sp : Nat → Bool} {held : Bool}
theorem k2 : Try.prog.cellsOf 2 = 1 := by kernel_rfl
theorem k3 : Try.prog.cellsOf 3 = 1 := by kernel_rfl
theorem k4 : Try.prog.cellsOf 4 = 1 := by kernel_rfl
theorem k43 : Try.prog.cellsOf 43 = 3 := by kernel_rfl
theorem int_of {k : IntKind} {n : Nat} {t : TypeId} {c : Value} {o : Option (DataW H × List MemPlace)} {x : DataW H × List MemPlace} (ht : Try.prog.underlying t = some (.int k)) (h : DataW.trod enc Try.prog w base sp held n t [c] = o) (ho : o = some x) : ∃ a : Int, c = .int k a ∧ (Lit.int k a).wf = true := by
  subst ho
  obtain ⟨a, ha, _, hw⟩ := DataW.trod_int ht h
  simp at ha
  exact ⟨a, ha, hw⟩
theorem bool_of {n : Nat} {t : TypeId} {c : Value} {o : Option (DataW H × List MemPlace)} {x : DataW H × List MemPlace} (ht : Try.prog.underlying t = some .bool) (h : DataW.trod enc Try.prog w base sp held n t [c] = o) (ho : o = some x) : ∃ a : Bool, c = .bool a := by
  subst ho
  obtain ⟨a, ha, _⟩ := DataW.trod_bool ht h
  simp at ha
  exact ⟨a, ha⟩
theorem pt_of_trod {n : Nat} {cs : List Value} {x : DataW H × List MemPlace} (h : DataW.trod enc Try.prog w base sp held n 43 cs = some x) : ∃ c : Pt, cs = c.cl := by
  obtain ⟨xs, m, _, _, hlen, hxl, hf⟩ := DataW.trod_struct Try.underlying43 h
  have hc3 : cs.length = 3 := hlen.trans k43
  have hx3 : xs.length = 3 := hxl
  match cs, hc3, xs, hx3 with
  | [c0, c1, c2], _, [x0, x1, x2], _ =>
    have h0 := hf 0 { name := "N", type := 2, offset := 0, embedded := false, tag := "", pkgPath := "", byteOffset := 0 } rfl
    have h1 := hf 1 { name := "Bits", type := 3, offset := 1, embedded := false, tag := "", pkgPath := "", byteOffset := 8 } rfl
    have h2 := hf 2 { name := "Signed", type := 4, offset := 2, embedded := false, tag := "", pkgPath := "", byteOffset := 16 } rfl
    simp only [k2, k3, k4, List.drop_zero, List.drop_succ_cons, List.take_succ_cons, List.take_zero] at h0 h1 h2
    obtain ⟨a0, rfl, _⟩ := int_of Try.underlying2 h0 rfl
    obtain ⟨a1, rfl, _⟩ := int_of Try.underlying3 h1 rfl
    obtain ⟨a2, rfl⟩ := bool_of Try.underlying4 h2 rfl
    exact ⟨⟨a0, a1, a2⟩, rfl⟩

/-- A slice of structs that came in reads as a list. -/
theorem rg_of_slice {α : Type} (sz : Nat) (cl : α → List Value) (ok : α → Prop) {t e : TypeId} {fuel : Nat} {A : Option Addr} {len cap : Nat} {x : DataW H × List MemPlace} (ht : Try.prog.underlying t = some (.slice e)) (hk : Try.prog.cellsOf e = sz) (hsz : 0 < sz) (hcl : ∀ x, (cl x).length = sz)
    (hone : ∀ {n : Nat} {cs : List Value} {y : DataW H × List MemPlace}, DataW.trod enc Try.prog w base sp held n e cs = some y → ∃ c : α, cs = cl c ∧ ok c)
    (h : DataW.trod enc Try.prog w base sp held fuel t [.slice A len cap] = some x) :
    ∃ xs : List α, len ≤ cap ∧ cap ≤ maxLen ∧ Rg sz cl w w.heap.size A len xs ∧ ∀ c ∈ xs, ok c := by
  rcases open_slice ht h with ⟨hcs, _⟩ | ⟨a, l, c, m, n, D, Pl, hcs, _, hl, hm, hmm, hxe, hi⟩
  · simp at hcs
    obtain ⟨rfl, rfl, rfl⟩ := hcs
    exact ⟨[], Nat.le_refl _, Nat.zero_le _, Rg.nil_ _ _ _, fun _ h => by cases h⟩
  · simp at hcs
    obtain ⟨rfl, rfl, rfl⟩ := hcs
    rw [hk] at hi
    have hlm : len ≤ m := by rw [hmm]; split <;> omega
    have main : ∀ i, i < len → ∃ c : α, (∀ j u, (cl c)[j]? = some u → w.cell? (a.add (i * sz + j)) = some u) ∧ ok c := by
      intro i hil
      obtain ⟨cs', hc, ht'⟩ := hi i (by omega)
      obtain ⟨c, rfl, hok⟩ := hone ht'
      obtain ⟨_, hcl', hat⟩ := World.cells?_some hc
      refine ⟨c, fun j u hu => ?_, hok⟩
      have hj : j < sz := by rw [← hcl c]; exact (List.getElem?_eq_some_iff.1 hu).1
      have := hat j hj
      rw [add_add] at this
      rw [this, ← hu]
    obtain ⟨V, hV⟩ : ∃ xs : List α, xs.length = len ∧ ∀ i c, xs[i]? = some c → (∀ j u, (cl c)[j]? = some u → w.cell? (a.add (i * sz + j)) = some u) ∧ ok c := by
      clear hi hmm hl hm h hlm hxe
      induction len with
      | zero => exact ⟨[], rfl, fun i c h => by simp at h⟩
      | succ k ih =>
        obtain ⟨xs, hx1, hx2⟩ := ih (fun i hi => main i (by omega))
        obtain ⟨c, hc⟩ := main k (by omega)
        refine ⟨xs ++ [c], by simp [hx1], fun i d hd => ?_⟩
        rcases Nat.lt_or_ge i xs.length with hlt | hge
        · rw [List.getElem?_append_left hlt] at hd
          exact hx2 i d hd
        · rw [List.getElem?_append_right hge] at hd
          have hi0 : i - xs.length = 0 := by
            rcases Nat.eq_zero_or_pos (i - xs.length) with h0 | h0
            · exact h0
            · rw [List.getElem?_eq_none (by simp; omega)] at hd; cases hd
          rw [hi0] at hd
          simp at hd
          subst hd
          have : i = k := by omega
          subst this
          exact hc
    refine ⟨V, hl, hm, ⟨hV.1, fun h0 => ?_⟩, fun c hc => ?_⟩
    · have hlv := hV.1
      have hV0 := hV.2 0 V[0] (List.getElem?_eq_getElem (by omega))
      have hc0 := hV0.1 0 ((cl V[0])[0]'(by rw [hcl]; exact hsz)) (List.getElem?_eq_getElem _)
      obtain ⟨b, off, spot⟩ := a
      have hspot : spot = none := by simpa [Addr.add] using World.cell?_spot hc0
      subst hspot
      refine ⟨b, off, rfl, ?_, fun j u hu => ?_⟩
      · have := cell_lt hc0
        simpa [Addr.add] using this
      · have hj : j < (V.flatMap cl).length := (List.getElem?_eq_some_iff.1 hu).1
        rw [rflat_len hcl, hV.1] at hj
        have hq : j / sz < len := Nat.div_lt_of_lt_mul (by rw [Nat.mul_comm]; exact hj)
        have hr : j % sz < sz := Nat.mod_lt _ hsz
        have he : j / sz * sz + j % sz = j := Nat.div_add_mod' j sz
        have h1 := rflat_at hcl V (j / sz) V[j / sz] (List.getElem?_eq_getElem (by omega)) (j % sz) ((cl V[j / sz])[j % sz]'(by rw [hcl]; exact hr)) (List.getElem?_eq_getElem _)
        rw [he, hu] at h1
        have h2 := (hV.2 (j / sz) V[j / sz] (List.getElem?_eq_getElem (by omega))).1 (j % sz) _ (List.getElem?_eq_getElem (by rw [hcl]; exact hr))
        rw [he, Addr.add_mid] at h2
        rw [h2, h1]
    · obtain ⟨i, hi, rfl⟩ := List.mem_iff_getElem.1 hc
      exact (hV.2 i _ (List.getElem?_eq_getElem hi)).2
end
end Go.Proofs.Ytldgldibkibknaa
