/- How one play that comes in is read. -/
import Derived.Test.YtjldpodehffbnaaCFrame4
namespace Go.Proofs.Ytjldpodehffbnaa
set_option linter.unusedVariables false
set_option linter.unnecessarySimpa false
set_option linter.unusedSimpArgs false
open Go.ChangeShapes Go.WideShapes Go.ChangeAt Go.RowKit Go.Joins

section
variable {H : Type} {enc : TypeId × Value → H} {W : World}
set_option maxRecDepth 200000 in
theorem open_play {v : Value} {d : DataW H} {p : List MemPlace} {base : Nat} (hv : Value.okWide Try.prog W .any base 78 v)
    (h : DataW.Trod enc Try.prog W 0 (fun _ => true) true 78 v d p) (hw : Light Try.prog 78 d) : ∃ cs k ops, v = .agg cs.toArray ∧ PlayV W cs k ops := by
  simp only [Value.okWide, Try.underlying78] at hv
  obtain ⟨cs, rfl, hsz, _⟩ := hv
  obtain ⟨fuel, hf⟩ := h
  obtain ⟨k, ops, ho⟩ := play_of hf hw
  exact ⟨cs.toList, k, ops, rfl, ho⟩
end
end Go.Proofs.Ytjldpodehffbnaa
