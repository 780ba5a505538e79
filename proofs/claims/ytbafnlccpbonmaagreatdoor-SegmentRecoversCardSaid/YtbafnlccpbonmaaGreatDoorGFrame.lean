/- The frames of the segments' laws: what the rows' lists and the world's shape give of the package variables. -/
import Derived.Test.YtbafnlccpbonmaaGreatDoorCards
import Derived.Test.YtbafnlccpbonmaaGreatDoorTie
import Derived.Test.YtbafnlccpbonmaaGreatDoorGMi
import Derived.Test.YtbafnlccpbonmaaGreatDoorGLib
import Derived.ProofKit
import Derived.OpenShut
import Derived.Deep.DeepHandedRow
import Derived.Lib.LaidTab
import Derived.Lib.SmallJoins
import Derived.Stop.LaidErr
import Derived.ChangeMaps5
import Derived.PinnedBridge
import Derived.Lay
import Derived.MakeChecks
namespace Go.Proofs.YtbafnlccpbonmaaGreatDoor
set_option linter.unusedVariables false
set_option linter.unnecessarySimpa false
set_option linter.unusedSimpArgs false
open Go.ChangeShapes Go.WideShapes Go.ChangeAt Go.RowKit Go.Joins

theorem Tryz.own : ownKnob Tryz.prog.godebug = none := by kernel_rfl
theorem laidMet_tail {P : Program} {x : String × DataW Unit} {l : List (String × DataW Unit)} {W : World} (h : laidMet P (x :: l) W) : laidMet P l W := by
  obtain ⟨ps, ⟨g, t, cs, fuel, p, q, hg, ht, hv, hd, hr, hp⟩, hz⟩ := h
  subst hp
  exact ⟨q, hr, (List.nodup_append.1 hz.1).2.1, fun b o hm => hz.2 b o (List.mem_append.2 (.inr hm))⟩
theorem Tryz.gErrR : Tryz.prog.globalNamed "strconv.ErrRange" = some 2 := by kernel_rfl
theorem Tryz.gErrS : Tryz.prog.globalNamed "strconv.ErrSyntax" = some 1 := by kernel_rfl
theorem Tryz.gErrRType : (Tryz.prog.globals[2]?).map (·.type) = some 92 := by kernel_rfl
theorem Tryz.gErrSType : (Tryz.prog.globals[1]?).map (·.type) = some 92 := by kernel_rfl
theorem Tryz.cellsErr : Tryz.prog.cellsOf 189 = 1 := by kernel_rfl
theorem Tryz.cellsStr : Tryz.prog.cellsOf 9 = 1 := by kernel_rfl
theorem Tryz.star : "*" ++ "errors.errorString" = "*errors.errorString" := by decide
theorem Tryz.rowErr (u : TypeId) (h : Tryz.prog.typeName? 3 u = some "*errors.errorString") : u = 187 :=
  typeName_ptr_named (nm := "errors.errorString") (by rw [Tryz.star]; kernel_rfl) (by kernel_rfl) (by decide) u (by rw [Tryz.star]; exact h)
set_option maxRecDepth 100000 in
/-- A package variable of type int holds some int. -/
theorem maxLen_of_shape {w : World} (h : w.ShapedOpen Tryz.prog) : ∃ m, w.cell? ⟨0, 0, none⟩ = some (.int .i64 m) := by
  obtain ⟨cs, hh, hs, hr⟩ := h.1 0 #[.int .i64 0] 3 (of_decide_eq_true (by kernel_rfl)) (by kernel_rfl)
  obtain ⟨ts, hts, _, hall⟩ := hr (by kernel_rfl)
  have hc : Tryz.prog.cellTypes Tryz.prog.depth 3 = some [3] := by kernel_rfl
  rw [hc] at hts
  cases hts
  have h1 : 0 < cs.size := by rw [hs]; decide
  obtain ⟨u, hu', hok⟩ := hall 0 cs[0] (by simp [h1])
  have : u = 3 := by simpa using hu'.symm
  subst this
  have hcell : w.cell? ⟨0, 0, none⟩ = some cs[0] := by simp [World.cell?, hh, h1]
  rw [hcell]
  unfold Cell.ok at hok
  rw [Tryz.underlying3] at hok
  cases hv : cs[0] <;> rw [hv] at hok <;> first | (rename_i k n; cases k <;> first | exact ⟨_, rfl⟩ | simp at hok) | simp at hok
abbrev segLaid : List (String × DataW Unit) := Rows.segmentFramesRow.laid
set_option maxRecDepth 100000 in
theorem env_of {W : World} (h0 : laidMet Tryz.prog segLaid W) (hS : W.ShapedOpen Tryz.prog) : Pow10 W ∧ LibVars W := by
  obtain ⟨m, hm⟩ := maxLen_of_shape hS
  obtain ⟨a0, s0, hv0, -, -, -⟩ := laid_sentinel (laidMet_tail (laidMet_tail (laidMet_tail h0))) Tryz.gErrR Tryz.gErrRType Tryz.underlying92 Tryz.rowErr Tryz.underlying187 Tryz.underlying189 rfl rfl Tryz.underlying9 Tryz.cellsErr Tryz.cellsStr
  obtain ⟨a1, s1, hv1, -, -, -⟩ := laid_sentinel (laidMet_tail (laidMet_tail (laidMet_tail (laidMet_tail h0)))) Tryz.gErrS Tryz.gErrSType Tryz.underlying92 Tryz.rowErr Tryz.underlying187 Tryz.underlying189 rfl rfl Tryz.underlying9 Tryz.cellsErr Tryz.cellsStr
  refine ⟨?_, m, _, _, hm, by have h0 := World.var?_cell Tryz.gErrS hv1 0; simpa using h0, .inr ⟨_, _, rfl⟩, by have h0 := World.var?_cell Tryz.gErrR hv0 0; simpa using h0, .inr ⟨_, _, rfl⟩⟩
  exact Lib.tabIs_of_head (rest := _) gPow (t := 184) (e := 86) (n := 20) (by kernel_rfl) Tryz.underlying184 Tryz.underlying86 (by kernel_rfl) (by kernel_rfl) (laidMet_tail (laidMet_tail h0))
end Go.Proofs.YtbafnlccpbonmaaGreatDoor
