/- lexer's laws: the library's variables, and the table of math/bits. -/
import Derived.Test.YtmchiibbodllaaaGreatDoorLFrame
import Derived.Test.YtmchiibbodllaaaGreatDoorQtF
namespace Go.Proofs.YtmchiibbodllaaaGreatDoor
set_option linter.unusedVariables false
set_option linter.unnecessarySimpa false
set_option linter.unusedSimpArgs false
open Go.ChangeShapes Go.WideShapes Go.ChangeAt Go.RowKit Go.Joins

theorem Tryz.gTab : Tryz.prog.globalNamed "math/bits.deBruijn64tab" = some 8 := by kernel_rfl
theorem Tryz.gTabType : (Tryz.prog.globals[8]?).map (·.type) = some 183 := by kernel_rfl
theorem Tryz.cellsU8 : Tryz.prog.cellsOf 5 = 1 := by kernel_rfl
set_option maxRecDepth 100000 in
theorem env2_of {W : World} (h0 : laidMet Tryz.prog lexLaid W) (hS : W.ShapedOpen Tryz.prog) : Env W ∧ Tab4 W := by
  refine ⟨env_of h0 hS, ?_⟩
  obtain ⟨g, ty, cs, fuel, p, hg, hty, hvar, hd⟩ := Lib.laidMet.reads h0 (n := "math/bits.deBruijn64tab") (d := Rows.laid_math_bits_deBruijn64tab) (.tail _ (.head _))
  obtain rfl := Option.some.inj (Tryz.gTab.symm.trans hg)
  obtain rfl := Option.some.inj (Tryz.gTabType.symm.trans hty)
  have hc := World.var?_cell hg hvar 15
  unfold Tab4
  rw [hc]
  unfold Rows.laid_math_bits_deBruijn64tab at hd
  obtain ⟨fuel', d, q, hdi, he⟩ := Lib.array_elem Tryz.underlying183 hd 15 (by decide)
  rw [Tryz.cellsU8] at he
  obtain ⟨z, hz, hdz, _⟩ := DataW.trod_int Tryz.underlying5 he
  have h1 : cs.toList[15]? = some (.int .u8 z) := by
    have := congrArg (·[0]?) hz
    simpa using this
  rw [← Array.getElem?_toList, h1]
  have h2 : d = .lit (.int .u8 4) := by simpa using hdi.symm
  rw [h2] at hdz
  have : z = 4 := by have := hdz.symm; simp at this; exact this.1
  rw [this]
end Go.Proofs.YtmchiibbodllaaaGreatDoor
