/- The frames of the lexer's laws: what the rows' lists and the world's shape give of the package variables. -/
import Derived.Test.YtmchiibbodllaaaGreatDoorCards
import Derived.Test.YtmchiibbodllaaaGreatDoorTie
import Derived.Test.YtmchiibbodllaaaGreatDoorLEnv
import Derived.ProofKit
import Derived.OpenShut
import Derived.Deep.DeepHandedRow
import Derived.Lib.LaidTab
import Derived.Lib.LaidU8T
import Derived.Lib.SmallJoins
import Derived.Stop.LaidErr
import Derived.ChangeMaps5
import Derived.PinnedBridge
import Derived.Lay
import Derived.MakeChecks
namespace Go.Proofs.YtmchiibbodllaaaGreatDoor
set_option linter.unusedVariables false
set_option linter.unnecessarySimpa false
set_option linter.unusedSimpArgs false
open Go.ChangeShapes Go.WideShapes Go.ChangeAt Go.RowKit Go.Joins

theorem Tryz.own : ownKnob Tryz.prog.godebug = none := by kernel_rfl
theorem laidMet_tail {P : Program} {x : String × DataW Unit} {l : List (String × DataW Unit)} {W : World} (h : laidMet P (x :: l) W) : laidMet P l W := by
  obtain ⟨ps, ⟨g, t, cs, fuel, p, q, hg, ht, hv, hd, hr, hp⟩, hz⟩ := h
  subst hp
  exact ⟨q, hr, (List.nodup_append.1 hz.1).2.1, fun b o hm => hz.2 b o (List.mem_append.2 (.inr hm))⟩
theorem Tryz.gErrR : Tryz.prog.globalNamed "strconv.ErrRange" = some 6 := by kernel_rfl
theorem Tryz.gErrS : Tryz.prog.globalNamed "strconv.ErrSyntax" = some 5 := by kernel_rfl
theorem Tryz.gErrRType : (Tryz.prog.globals[6]?).map (·.type) = some 84 := by kernel_rfl
theorem Tryz.gErrSType : (Tryz.prog.globals[5]?).map (·.type) = some 84 := by kernel_rfl
theorem Tryz.gPairs : Tryz.prog.globalNamed "manifold/lexer.pairs" = some 0 := by kernel_rfl
theorem Tryz.gPairsType : (Tryz.prog.globals[0]?).map (·.type) = some 92 := by kernel_rfl
theorem Tryz.cellsErr : Tryz.prog.cellsOf 187 = 1 := by kernel_rfl
theorem Tryz.cellsStr : Tryz.prog.cellsOf 9 = 1 := by kernel_rfl
theorem Tryz.star : "*" ++ "errors.errorString" = "*errors.errorString" := by decide
theorem Tryz.rowErr (u : TypeId) (h : Tryz.prog.typeName? 3 u = some "*errors.errorString") : u = 185 :=
  typeName_ptr_named (nm := "errors.errorString") (by rw [Tryz.star]; kernel_rfl) (by kernel_rfl) (by decide) u (by rw [Tryz.star]; exact h)
set_option maxRecDepth 100000 in
/-- A package variable of type int holds some int. -/
theorem maxLen_of_shape {w : World} (h : w.ShapedOpen Tryz.prog) : ∃ m, w.cell? ⟨3, 0, none⟩ = some (.int .i64 m) := by
  obtain ⟨cs, hh, hs, hr⟩ := h.1 3 #[.int .i64 0] 3 (of_decide_eq_true (by kernel_rfl)) (by kernel_rfl)
  obtain ⟨ts, hts, _, hall⟩ := hr (by kernel_rfl)
  have hc : Tryz.prog.cellTypes Tryz.prog.depth 3 = some [3] := by kernel_rfl
  rw [hc] at hts
  cases hts
  have h1 : 0 < cs.size := by rw [hs]; decide
  obtain ⟨u, hu', hok⟩ := hall 0 cs[0] (by simp [h1])
  have : u = 3 := by simpa using hu'.symm
  subst this
  have hcell : w.cell? ⟨3, 0, none⟩ = some cs[0] := by simp [World.cell?, hh, h1]
  rw [hcell]
  unfold Cell.ok at hok
  rw [Tryz.underlying3] at hok
  cases hv : cs[0] <;> rw [hv] at hok <;> first | (rename_i k n; cases k <;> first | exact ⟨_, rfl⟩ | simp at hok) | simp at hok
abbrev lexLaid : List (String × DataW Unit) := Rows.lexerScansRow.laid
def u8Ren : Go.Shelf.Ren := ⟨fun n => n, fun | 5 => 5 | 119 => 112 | 138 => 114 | 139 => 115 | n => n, fun | 3 => 1 | 4 => 2 | n => n⟩
set_option maxRecDepth 100000 in
theorem env_of {W : World} (h0 : laidMet Tryz.prog lexLaid W) (hS : W.ShapedOpen Tryz.prog) : Env W := by
  obtain ⟨m, hm⟩ := maxLen_of_shape hS
  obtain ⟨a0, s0, hv0, -, -, -⟩ := laid_sentinel (laidMet_tail (laidMet_tail (laidMet_tail (laidMet_tail h0)))) Tryz.gErrR Tryz.gErrRType Tryz.underlying84 Tryz.rowErr Tryz.underlying185 Tryz.underlying187 rfl rfl Tryz.underlying9 Tryz.cellsErr Tryz.cellsStr
  obtain ⟨a1, s1, hv1, -, -, -⟩ := laid_sentinel (laidMet_tail (laidMet_tail (laidMet_tail (laidMet_tail (laidMet_tail h0))))) Tryz.gErrS Tryz.gErrSType Tryz.underlying84 Tryz.rowErr Tryz.underlying185 Tryz.underlying187 rfl rfl Tryz.underlying9 Tryz.cellsErr Tryz.cellsStr
  refine ⟨⟨m, _, _, hm, by have h0 := World.var?_cell Tryz.gErrS hv1 0; simpa using h0, .inr ⟨_, _, rfl⟩, by have h0 := World.var?_cell Tryz.gErrR hv0 0; simpa using h0, .inr ⟨_, _, rfl⟩⟩, ?_, ?_, ?_⟩
  · exact Lib.tabIs_of_head (rest := _) gPow (t := 153) (e := 129) (n := 20) (by kernel_rfl) Tryz.underlying153 Tryz.underlying129 (by kernel_rfl) (by kernel_rfl) (laidMet_tail (laidMet_tail h0))
  · have r1 : Lib.VarReads Tryz.prog W "unicode/utf8.first" Lib.firstData := (show Rows.laid_unicode_utf8_first = Lib.firstData from Pinned.utf8First_eq) ▸ Lib.laidMet.reads h0 (.tail _ (.tail _ (.tail _ (.tail _ (.tail _ (.tail _ (.tail _ (.head _))))))))
    have r2 : Lib.VarReads Tryz.prog W "unicode/utf8.acceptRanges" Lib.acceptData := (show (Rows.laid_unicode_utf8_acceptRanges : DataW Unit) = Lib.acceptData by kernel_rfl) ▸ Lib.laidMet.reads h0 (.tail _ (.tail _ (.tail _ (.head _))))
    exact utf8Tabs_of_readsT (ρ := u8Ren) ⟨by kernel_rfl, by kernel_rfl, by kernel_rfl, by kernel_rfl⟩ ⟨by kernel_rfl, by kernel_rfl, by kernel_rfl, by kernel_rfl, by kernel_rfl, by kernel_rfl, by kernel_rfl⟩ r1 r2
  · intro k t hk
    obtain ⟨g, ty, cs, fuel, p, hg, hty, hvar, hd⟩ := Lib.laidMet.reads h0 (n := "manifold/lexer.pairs") (d := Rows.laid_manifold_lexer_pairs) (.tail _ (.tail _ (.tail _ (.tail _ (.tail _ (.tail _ (.head _)))))))
    obtain rfl := Option.some.inj (Tryz.gPairs.symm.trans hg)
    obtain rfl := Option.some.inj (Tryz.gPairsType.symm.trans hty)
    have hk5 : k < 5 := (List.getElem?_eq_some_iff.1 hk).1
    have hc := World.var?_cell hg hvar k
    rw [hc]
    unfold Rows.laid_manifold_lexer_pairs at hd
    obtain ⟨fuel', d, q, hdi, he⟩ := Lib.array_elem Tryz.underlying92 hd k hk5
    rw [Tryz.cellsStr] at he
    obtain ⟨sx, hcs, hx, _⟩ := DataW.trod_string Tryz.underlying9 he
    have hd2 : d = .lit (.string sx.data.toList) := by injection hx
    have h1 : cs.toList[k]? = some (.string sx) := by
      have := congrArg (·[0]?) hcs
      simpa using this
    rw [← Array.getElem?_toList, h1]
    rw [hd2] at hdi
    match k, hk5, hk, hdi with
    | 0, _, hk, hdi | 1, _, hk, hdi | 2, _, hk, hdi | 3, _, hk, hdi | 4, _, hk, hdi =>
      simp [pairsB] at hk hdi
      subst hk
      have : sx = B sx.data.toList := rfl
      rw [this, ← hdi]
      rfl
end Go.Proofs.YtmchiibbodllaaaGreatDoor
