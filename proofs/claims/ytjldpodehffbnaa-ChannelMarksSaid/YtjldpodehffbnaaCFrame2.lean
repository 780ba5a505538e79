/- How a list of marks that comes in is read. -/
import Derived.Test.YtjldpodehffbnaaCFrame
import Derived.Test.YtjldpodehffbnaaCLaw3
namespace Go.Proofs.Ytjldpodehffbnaa
set_option linter.unusedVariables false
set_option linter.unnecessarySimpa false
set_option linter.unusedSimpArgs false
open Go.ChangeShapes Go.WideShapes Go.ChangeAt Go.RowKit Go.Joins

theorem Try.cells48 : Try.prog.cellsOf 48 = 1 := by kernel_rfl
set_option maxRecDepth 200000 in
theorem open_uint16s {H : Type} {enc : TypeId × Value → H} {W : World} {v : Value} {d : DataW H} {p : List MemPlace} {base : Nat} (hv : Value.okWide Try.prog W .any base 44 v)
    (h : DataW.Trod enc Try.prog W 0 (fun _ => true) true 44 v d p) (hw : Light Try.prog 44 d) : ∃ A n c l, v = .slice A n c ∧ MarksV W A n c l := by
  obtain ⟨a0, len, cap, rfl⟩ := okWide_slice Try.underlying44 hv
  obtain ⟨fuel, hf⟩ := h
  obtain ⟨A, n, c, xs, he, hr, hx⟩ := slice_rw Try.underlying44 Try.cells48 (by decide) hf
  have hl := hr.2.2.1
  rw [Nat.mul_one] at hl
  have hls := hl.1
  have each : ∀ j (hj : j < xs.length), ∃ z, xs[j] = .int .u16 z ∧ 0 ≤ z ∧ z ≤ 65535 := by
    intro j hj
    rcases hx with ⟨_, rfl⟩ | ⟨m, elems, sp, _, _, _, hel⟩
    · omega
    · obtain ⟨y, _, hy⟩ := hel j (by omega)
      rw [Nat.mul_one] at hy
      have e1 : (xs.drop j).take 1 = [xs[j]] := by
        rw [List.drop_eq_getElem_cons hj, List.take_succ_cons, List.take_zero]
      rw [e1] at hy
      obtain ⟨z, hz, _, wz⟩ := DataW.trod_int Try.underlying48 hy
      have e2 : IntKind.u16.min = 0 := rfl
      have e3 : IntKind.u16.max = 65535 := rfl
      simp [Lit.wf, e2, e3] at wz
      exact ⟨z, by simpa using hz, wz.1, wz.2⟩
  have hxs : xs = u16s (xs.map intOf) := by
    apply List.ext_getElem?
    intro j
    rcases Nat.lt_or_ge j xs.length with hj | hj
    · obtain ⟨z, hz, _⟩ := each j hj
      simp [List.getElem?_eq_getElem hj, hz, intOf]
    · rw [List.getElem?_eq_none hj, List.getElem?_eq_none (by simp; omega)]
  refine ⟨A, n, c, xs.map intOf, he, ⟨?_, hr.1, hr.2.1, fun x hx' => ?_⟩⟩
  · rw [← hxs]; exact hl
  · obtain ⟨u, hu, rfl⟩ := List.mem_map.1 hx'
    obtain ⟨j, hj, rfl⟩ := List.getElem_of_mem hu
    obtain ⟨z, hz, h1, h2⟩ := each j hj
    rw [hz]
    exact ⟨h1, h2⟩
end Go.Proofs.Ytjldpodehffbnaa
