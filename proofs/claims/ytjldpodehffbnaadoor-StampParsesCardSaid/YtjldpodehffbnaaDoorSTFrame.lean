/- The frames of the laws on texts of stamps: what the rows' lists and the world's shape give of the library's variables, the world of the witness. -/
import Derived.Test.YtjldpodehffbnaaDoorFrame
import Derived.Test.YtjldpodehffbnaaDoorSPar1
import Derived.Stop.LaidErr
import Derived.ChangeMaps5
namespace Go.Proofs.YtjldpodehffbnaaDoor
set_option linter.unusedVariables false
set_option linter.unnecessarySimpa false
set_option linter.unusedSimpArgs false
open Go.ChangeShapes Go.WideShapes Go.ChangeAt Go.RowKit Go.Joins

theorem Tryd.gErrR : Tryd.prog.globalNamed "strconv.ErrRange" = some 3 := by kernel_rfl
theorem Tryd.gErrS : Tryd.prog.globalNamed "strconv.ErrSyntax" = some 2 := by kernel_rfl
theorem Tryd.gErrRType : (Tryd.prog.globals[3]?).map (·.type) = some 80 := by kernel_rfl
theorem Tryd.gErrSType : (Tryd.prog.globals[2]?).map (·.type) = some 80 := by kernel_rfl
theorem Tryd.cellsErr : Tryd.prog.cellsOf 132 = 1 := by kernel_rfl
theorem Tryd.cellsStr : Tryd.prog.cellsOf 9 = 1 := by kernel_rfl
theorem Tryd.star : "*" ++ "errors.errorString" = "*errors.errorString" := by decide
theorem Tryd.rowErr (u : TypeId) (h : Tryd.prog.typeName? 3 u = some "*errors.errorString") : u = 130 :=
  typeName_ptr_named (nm := "errors.errorString") (by rw [Tryd.star]; kernel_rfl) (by kernel_rfl) (by decide) u (by rw [Tryd.star]; exact h)

set_option maxRecDepth 100000 in
/-- A package variable of type int holds some int. -/
theorem maxLen_of_shape {w : World} (h : w.ShapedOpen Tryd.prog) : ∃ m, w.cell? ⟨0, 0, none⟩ = some (.int .i64 m) := by
  obtain ⟨cs, hh, hs, hr⟩ := h.1 0 #[.int .i64 0] 3 (of_decide_eq_true (by kernel_rfl)) (by kernel_rfl)
  obtain ⟨ts, hts, _, hall⟩ := hr (by kernel_rfl)
  have hc : Tryd.prog.cellTypes Tryd.prog.depth 3 = some [3] := by kernel_rfl
  rw [hc] at hts
  cases hts
  have h1 : 0 < cs.size := by rw [hs]; decide
  obtain ⟨u, hu', hok⟩ := hall 0 cs[0] (by simp [h1])
  have : u = 3 := by simpa using hu'.symm
  subst this
  have hcell : w.cell? ⟨0, 0, none⟩ = some cs[0] := by simp [World.cell?, hh, h1]
  rw [hcell]
  unfold Cell.ok at hok
  rw [Tryd.underlying3] at hok
  cases hv : cs[0] <;> rw [hv] at hok <;> first | (rename_i k n; cases k <;> first | exact ⟨_, rfl⟩ | simp at hok) | simp at hok

theorem pow10_of_laidT {W : World} (h : laidMetH Tryd.prog Rows.stampTextsRow.laid W) : Pow10 W := by
  have h0 : laidMet Tryd.prog Rows.stampTextsRow.laid W := h
  exact Lib.tabIs_of_head (rest := _) gPow (t := 112) (e := 95) (n := 20) (by kernel_rfl) Tryd.underlying112 Tryd.underlying95 (by kernel_rfl) (by kernel_rfl) (laidMet_tail (laidMet_tail h0))
set_option maxRecDepth 100000 in
theorem libVars_of {W : World} (hL : laidMetH Tryd.prog Rows.stampTextsRow.laid W) (hS : W.ShapedOpen Tryd.prog) : LibVars W := by
  have h0 : laidMet Tryd.prog Rows.stampTextsRow.laid W := hL
  obtain ⟨m, hm⟩ := maxLen_of_shape hS
  obtain ⟨a0, s0, hv0, -, -, -⟩ := laid_sentinel (laidMet_tail (laidMet_tail (laidMet_tail (laidMet_tail h0)))) Tryd.gErrR Tryd.gErrRType Tryd.underlying80 Tryd.rowErr Tryd.underlying130 Tryd.underlying132 rfl rfl Tryd.underlying9 Tryd.cellsErr Tryd.cellsStr
  obtain ⟨a1, s1, hv1, -, -, -⟩ := laid_sentinel (laidMet_tail (laidMet_tail (laidMet_tail (laidMet_tail (laidMet_tail h0))))) Tryd.gErrS Tryd.gErrSType Tryd.underlying80 Tryd.rowErr Tryd.underlying130 Tryd.underlying132 rfl rfl Tryd.underlying9 Tryd.cellsErr Tryd.cellsStr
  exact ⟨⟨m, hm⟩, ⟨_, by have h0 := World.var?_cell Tryd.gErrS hv1 0; simpa using h0, .inr ⟨_, _, rfl⟩⟩, ⟨_, by have h0 := World.var?_cell Tryd.gErrR hv0 0; simpa using h0, .inr ⟨_, _, rfl⟩⟩, pow10_of_laidT hL⟩

/-- The cells of a table of rows. -/
def tabCells2 : DataW Unit → Array Value
  | .agg l => (l.flatMap fun d => (tabCells d).toList).toArray
  | _ => #[]
/-- The world of the witness: the tables, and the two errors, hold what their initialisers lay. -/
noncomputable def lowT : Nat := (World.holding Tryd.prog default ⟨#[], #[], []⟩).heap.size
abbrev rangeS : ByteArray := ⟨#[118, 97, 108, 117, 101, 32, 111, 117, 116, 32, 111, 102, 32, 114, 97, 110, 103, 101]⟩
abbrev syntaxS : ByteArray := ⟨#[105, 110, 118, 97, 108, 105, 100, 32, 115, 121, 110, 116, 97, 120]⟩
noncomputable def laidWorldT (os : Os) : World :=
  layAt 2 #[.iface 130 (.pointer (some ⟨lowT + 1, 0, none⟩))] (layAt 3 #[.iface 130 (.pointer (some ⟨lowT, 0, none⟩))]
    (layAt 4 (tabCells Rows.laid_unicode_utf8_first) (layAt 5 (tabCells2 Rows.laid_unicode_utf8_acceptRanges)
    (layAt 1 (tabCells Rows.laid_internal_strconv_uint64pow10) (layAt 7 (tabCells Rows.laid_math_bits_deBruijn64tab) (layAt 6 (tabCells Rows.laid_math_bits_deBruijn32tab)
      (World.holding Tryd.prog os ⟨#[.cells #[.string rangeS] 132, .cells #[.string syntaxS] 132], #[], []⟩)))))))
end Go.Proofs.YtjldpodehffbnaaDoor
