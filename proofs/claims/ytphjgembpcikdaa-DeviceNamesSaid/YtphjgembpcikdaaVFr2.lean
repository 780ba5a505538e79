/- device laws: how arrays of two that come in are read. -/
import Derived.Test.YtphjgembpcikdaaVOps
namespace Go.Proofs.Ytphjgembpcikdaa
set_option linter.unusedVariables false
set_option linter.unnecessarySimpa false
set_option linter.unusedSimpArgs false
open Go.ChangeShapes Go.WideShapes Go.ChangeAt Go.RowKit Go.Joins

theorem Try.cells32 : Try.prog.cellsOf 32 = 2 := by kernel_rfl
theorem Try.cells9 : Try.prog.cellsOf 9 = 1 := by kernel_rfl
section
variable {H : Type} {enc : TypeId × Value → H} {W : World}
theorem str_of' {fuel : Nat} {c : Value} {x : DataW H × List MemPlace} (h : Tr enc W fuel 9 [c] x) : ∃ s : ByteArray, c = .string s ∧ s.size ≤ maxLen := by
  obtain ⟨n, e, _, hs⟩ := DataW.trod_string Try.underlying9 h
  cases e
  exact ⟨n, rfl, hs⟩
set_option maxRecDepth 200000 in
theorem open_strings2 {v : Value} {d : DataW H} {p : List MemPlace} {base : Nat} (hv : Value.okWide Try.prog W .any base 32 v)
    (h : DataW.Trod enc Try.prog W 0 (fun _ => true) true 32 v d p) : ∃ x y, v = .agg #[.string x, .string y] ∧ x.size ≤ maxLen ∧ y.size ≤ maxLen := by
  simp only [Value.okWide, Try.underlying32] at hv
  obtain ⟨cs, rfl, hsz, _⟩ := hv
  obtain ⟨fuel, hf⟩ := h
  obtain ⟨xs, m, rfl, hx, hl, hn, he⟩ := DataW.trod_array Try.underlying32 hf
  rw [Try.cells32] at hl
  obtain ⟨a, b, hab⟩ := list2 (show cs.toList.length = 2 from hl)
  have h0 := he 0 (by decide)
  have h1 := he 1 (by decide)
  rw [Try.cells9] at h0 h1
  have e : cs = #[a, b] := Array.toList_inj.1 hab
  subst e
  rw [List.getElem?_eq_getElem (by omega)] at h0 h1
  obtain ⟨x, rfl, hx1⟩ := str_of' (c := a) h0
  obtain ⟨y, rfl, hy1⟩ := str_of' (c := b) h1
  exact ⟨x, y, rfl, hx1, hy1⟩
end
end Go.Proofs.Ytphjgembpcikdaa
