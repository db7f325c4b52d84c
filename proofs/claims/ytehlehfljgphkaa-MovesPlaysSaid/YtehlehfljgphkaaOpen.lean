/-
  From a row's reading of its arguments to the words of the walks: a command by value; a slice of commands.
-/
import Derived.Test.YtehlehfljgphkaaRowBase
import Derived.Test.YtehlehfljgphkaaCmd
import Derived.Deep.Fields
import Derived.Deep.Slices
namespace Go.Proofs.Ytehlehfljgphkaa
open Go.ChangeShapes Go.WideShapes Go.ChangeAt Go.RowKit Go.Deep

/-- Each of a command's numbers fits its kind. -/
def Fit (c : Cmd) : Prop := (0 ≤ c.seq ∧ c.seq < 65536) ∧ (0 ≤ c.btn ∧ c.btn < 256)

section
variable {H : Type} {enc : TypeId × Value → H} {w : World} {base : Nat} {sp : Nat → Bool} {held : Bool}
theorem k30 : Try.prog.cellsOf 30 = 1 := by kernel_rfl
theorem k5 : Try.prog.cellsOf 5 = 1 := by kernel_rfl
theorem k31 : Try.prog.cellsOf 31 = 1 := by kernel_rfl
theorem k3 : Try.prog.cellsOf 3 = 1 := by kernel_rfl
theorem k4 : Try.prog.cellsOf 4 = 1 := by kernel_rfl
theorem k33 : Try.prog.cellsOf 33 = 5 := by kernel_rfl
theorem k35 : Try.prog.cellsOf 35 = 7 := by kernel_rfl
theorem int_of {k : IntKind} {n : Nat} {t : TypeId} {c : Value} {o : Option (DataW H × List MemPlace)} {x : DataW H × List MemPlace} (ht : Try.prog.underlying t = some (.int k)) (h : DataW.trod enc Try.prog w base sp held n t [c] = o) (ho : o = some x) : ∃ a : Int, c = .int k a ∧ (Lit.int k a).wf = true := by
  subst ho
  obtain ⟨a, ha, _, hw⟩ := DataW.trod_int ht h
  simp at ha
  exact ⟨a, ha, hw⟩
theorem bool_of {n : Nat} {t : TypeId} {c : Value} {o : Option (DataW H × List MemPlace)} {x : DataW H × List MemPlace} (ht : Try.prog.underlying t = some .bool) (h : DataW.trod enc Try.prog w base sp held n t [c] = o) (ho : o = some x) : ∃ a : Bool, c = .bool a := by
  subst ho
  obtain ⟨a, ha, _⟩ := DataW.trod_bool ht h
  simp at ha
  exact ⟨a, ha⟩
theorem cmd_of_trod {n : Nat} {cs : List Value} {x : DataW H × List MemPlace} (h : DataW.trod enc Try.prog w base sp held n 33 cs = some x) : ∃ c : Cmd, cs = c.cl ∧ Fit c := by
  obtain ⟨xs, m, _, _, hlen, hxl, hf⟩ := DataW.trod_struct Try.underlying33 h
  have hc5 : cs.length = 5 := hlen.trans k33
  have hx5 : xs.length = 5 := hxl
  match cs, hc5, xs, hx5 with
  | [c0, c1, c2, c3, c4], _, [x0, x1, x2, x3, x4], _ =>
    have h0 := hf 0 { name := "Seq", type := 30, offset := 0, embedded := false, tag := "", pkgPath := "", byteOffset := 0 } rfl
    have h1 := hf 1 { name := "Buttons", type := 5, offset := 1, embedded := false, tag := "", pkgPath := "", byteOffset := 2 } rfl
    have h2 := hf 2 { name := "Dx", type := 31, offset := 2, embedded := false, tag := "", pkgPath := "", byteOffset := 3 } rfl
    have h3 := hf 3 { name := "Dy", type := 31, offset := 3, embedded := false, tag := "", pkgPath := "", byteOffset := 4 } rfl
    have h4 := hf 4 { name := "Ticks", type := 3, offset := 4, embedded := false, tag := "", pkgPath := "", byteOffset := 8 } rfl
    simp only [k30, k5, k31, k3, List.drop_zero, List.drop_succ_cons, List.take_succ_cons, List.take_zero] at h0 h1 h2 h3 h4
    obtain ⟨a0, rfl, w0⟩ := int_of Try.underlying30 h0 rfl
    obtain ⟨a1, rfl, w1⟩ := int_of Try.underlying5 h1 rfl
    obtain ⟨a2, rfl, w2⟩ := int_of Try.underlying31 h2 rfl
    obtain ⟨a3, rfl, w3⟩ := int_of Try.underlying31 h3 rfl
    obtain ⟨a4, rfl, w4⟩ := int_of Try.underlying3 h4 rfl
    have b0 := bounds_u16 w0
    have b1 := bounds_u8 w1
    exact ⟨⟨a0, a1, a2, a3, a4⟩, rfl, ⟨by dsimp only; omega, by dsimp only; omega⟩⟩

/-- A command by value. -/
theorem open_cmd {r : Reach} {b0 : Nat} {v : Value} {d : DataW H} {p : List MemPlace} (hv : Value.okWide Try.prog w r b0 33 v) (h : DataW.Trod enc Try.prog w base sp held 33 v d p) :
    ∃ sq bt dx dy t : Int, v = .agg #[.int .u16 sq, .int .u8 bt, .int .i8 dx, .int .i8 dy, .int .i64 t] ∧ (0 ≤ sq ∧ sq < 65536) ∧ (0 ≤ bt ∧ bt < 256) := by
  obtain ⟨cs, rfl, hsz⟩ := okWide_struct Try.underlying33 hv
  obtain ⟨fuel, hf⟩ := h
  obtain ⟨c, hc, hfit⟩ := cmd_of_trod hf
  obtain ⟨sq, bt, dx, dy, t⟩ := c
  refine ⟨sq, bt, dx, dy, t, ?_, hfit.1, hfit.2⟩
  have : cs = (Cmd.cl ⟨sq, bt, dx, dy, t⟩).toArray := by
    rw [← hc]; simp [Value.cells]
  rw [this]
  rfl

/-- A slice of structs that came in reads as a list. -/
theorem rg_of_slice {α : Type} (sz : Nat) (cl : α → List Value) (ok : α → Prop) {t e : TypeId} {fuel : Nat} {A : Option Addr} {len cap : Nat} {x : DataW H × List MemPlace} (ht : Try.prog.underlying t = some (.slice e)) (hk : Try.prog.cellsOf e = sz) (hsz : 0 < sz) (hcl : ∀ x, (cl x).length = sz)
    (hone : ∀ {n : Nat} {cs : List Value} {y : DataW H × List MemPlace}, DataW.trod enc Try.prog w base sp held n e cs = some y → ∃ c : α, cs = cl c ∧ ok c)
    (h : DataW.trod enc Try.prog w base sp held fuel t [.slice A len cap] = some x) :
    ∃ xs : List α, len ≤ cap ∧ cap ≤ maxLen ∧ Rg sz cl w w.heap.size A len xs ∧ ∀ c ∈ xs, ok c := by
  rcases open_slice ht h with ⟨hcs, _⟩ | ⟨a, l, c, m, n, D, Pl, hcs, _, hl, hm, hmm, hxe, hi⟩
  · simp at hcs
    obtain ⟨rfl, rfl, rfl⟩ := hcs
    exact ⟨[], Nat.le_refl _, Nat.zero_le _, Rg.nil_ _ _ _, fun _ h => by cases h⟩
  · simp at hcs
    obtain ⟨rfl, rfl, rfl⟩ := hcs
    rw [hk] at hi
    have hlm : len ≤ m := by rw [hmm]; split <;> omega
    have main : ∀ i, i < len → ∃ c : α, (∀ j u, (cl c)[j]? = some u → w.cell? (a.add (i * sz + j)) = some u) ∧ ok c := by
      intro i hil
      obtain ⟨cs', hc, ht'⟩ := hi i (by omega)
      obtain ⟨c, rfl, hok⟩ := hone ht'
      obtain ⟨_, hcl', hat⟩ := World.cells?_some hc
      refine ⟨c, fun j u hu => ?_, hok⟩
      have hj : j < sz := by rw [← hcl c]; exact (List.getElem?_eq_some_iff.1 hu).1
      have := hat j hj
      rw [add_add] at this
      rw [this, ← hu]
    obtain ⟨V, hV⟩ : ∃ xs : List α, xs.length = len ∧ ∀ i c, xs[i]? = some c → (∀ j u, (cl c)[j]? = some u → w.cell? (a.add (i * sz + j)) = some u) ∧ ok c := by
      clear hi hmm hl hm h hlm hxe
      induction len with
      | zero => exact ⟨[], rfl, fun i c h => by simp at h⟩
      | succ k ih =>
        obtain ⟨xs, hx1, hx2⟩ := ih (fun i hi => main i (by omega))
        obtain ⟨c, hc⟩ := main k (by omega)
        refine ⟨xs ++ [c], by simp [hx1], fun i d hd => ?_⟩
        rcases Nat.lt_or_ge i xs.length with hlt | hge
        · rw [List.getElem?_append_left hlt] at hd
          exact hx2 i d hd
        · rw [List.getElem?_append_right hge] at hd
          have hi0 : i - xs.length = 0 := by
            rcases Nat.eq_zero_or_pos (i - xs.length) with h0 | h0
            · exact h0
            · rw [List.getElem?_eq_none (by simp; omega)] at hd; cases hd
          rw [hi0] at hd
          simp at hd
          subst hd
          have : i = k := by omega
          subst this
          exact hc
    refine ⟨V, hl, hm, ⟨hV.1, fun h0 => ?_⟩, fun c hc => ?_⟩
    · have hlv := hV.1
      have hV0 := hV.2 0 V[0] (List.getElem?_eq_getElem (by omega))
      have hc0 := hV0.1 0 ((cl V[0])[0]'(by rw [hcl]; exact hsz)) (List.getElem?_eq_getElem _)
      obtain ⟨b, off, spot⟩ := a
      have hspot : spot = none := by simpa [Addr.add] using World.cell?_spot hc0
      subst hspot
      refine ⟨b, off, rfl, ?_, fun j u hu => ?_⟩
      · have := cell_lt hc0
        simpa [Addr.add] using this
      · have hj : j < (V.flatMap cl).length := (List.getElem?_eq_some_iff.1 hu).1
        rw [flat_len hcl, hV.1] at hj
        have hq : j / sz < len := Nat.div_lt_of_lt_mul (by rw [Nat.mul_comm]; exact hj)
        have hr : j % sz < sz := Nat.mod_lt _ hsz
        have he : j / sz * sz + j % sz = j := Nat.div_add_mod' j sz
        have h1 := flat_at hcl V (j / sz) V[j / sz] (List.getElem?_eq_getElem (by omega)) (j % sz) ((cl V[j / sz])[j % sz]'(by rw [hcl]; exact hr)) (List.getElem?_eq_getElem _)
        rw [he, hu] at h1
        have h2 := (hV.2 (j / sz) V[j / sz] (List.getElem?_eq_getElem (by omega))).1 (j % sz) _ (List.getElem?_eq_getElem (by rw [hcl]; exact hr))
        rw [he, Addr.add_mid] at h2
        rw [h2, h1]
    · obtain ⟨i, hi, rfl⟩ := List.mem_iff_getElem.1 hc
      exact (hV.2 i _ (List.getElem?_eq_getElem hi)).2
end
end Go.Proofs.Ytehlehfljgphkaa
