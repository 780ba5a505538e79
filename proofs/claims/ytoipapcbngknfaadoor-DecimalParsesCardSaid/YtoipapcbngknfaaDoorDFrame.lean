/- What the laws' frames have in common: how a number that came in is read, the table of powers, the world of the witness. -/
import Derived.Test.YtoipapcbngknfaaDoorCards
import Derived.Test.YtoipapcbngknfaaDoorTie
import Derived.Test.YtoipapcbngknfaaDoorDTab
import Derived.ProofKit
import Derived.OpenShut
import Derived.Deep.DeepHandedRow
import Derived.Lib.LaidTab
import Derived.Lib.SmallJoins
namespace Go.Proofs.YtoipapcbngknfaaDoor
set_option linter.unusedVariables false
set_option linter.unnecessarySimpa false
set_option linter.unusedSimpArgs false
open Go.ChangeShapes Go.WideShapes Go.ChangeAt Go.RowKit Go.Joins

theorem Tryd.own : ownKnob Tryd.prog.godebug = none := by kernel_rfl
theorem Tryd.laidOut : laidOutB Tryd.prog = true := by kernel_rfl
theorem Tryd.cells23 : Tryd.prog.cellsOf 23 = 2 := by kernel_rfl
theorem Tryd.cells3 : Tryd.prog.cellsOf 3 = 1 := by kernel_rfl

theorem laidMet_tail {P : Program} {x : String × DataW Unit} {l : List (String × DataW Unit)} {W : World} (h : laidMet P (x :: l) W) : laidMet P l W := by
  obtain ⟨ps, ⟨g, t, cs, fuel, p, q, hg, ht, hv, hd, hr, hp⟩, hz⟩ := h
  subst hp
  exact ⟨q, hr, (List.nodup_append.1 hz.1).2.1, fun b o hm => hz.2 b o (List.mem_append.2 (.inr hm))⟩
/-- The rows' list gives the table of powers. -/
theorem pow10_of_laid {W : World} (h : laidMetH Tryd.prog Rows.decimalAddsRow.laid W) : Pow10 W := by
  have h0 : laidMet Tryd.prog Rows.decimalAddsRow.laid W := h
  exact Lib.tabIs_of_head (rest := []) gPow (t := 122) (e := 95) (n := 20) (by kernel_rfl) Tryd.underlying122 Tryd.underlying95 (by kernel_rfl) (by kernel_rfl) (laidMet_tail (laidMet_tail h0))

set_option maxRecDepth 100000 in
theorem open_number {H : Type} {enc : TypeId × Value → H} {W : World} {v : Value} {d : DataW H} {p : List MemPlace} {base : Nat}
    (hv : Value.okWide Tryd.prog W .any base 23 v) (h : DataW.Trod enc Tryd.prog W 0 (fun _ => true) true 23 v d p) : ∃ n s, v = .agg #[.int .i64 n, .int .i64 s] ∧ (Lit.int .i64 n).wf = true ∧ (Lit.int .i64 s).wf = true := by
  obtain ⟨c0, c1, y0, y1, m, rfl, rfl, rfl, hy0, hy1⟩ := open_agg2 Tryd.underlying23 (by kernel_rfl) Tryd.cells23 hv h
  obtain ⟨a, e0, hya, wa⟩ := DataW.trod_int Tryd.underlying3 hy0
  obtain ⟨b, e1, hyb, wb⟩ := DataW.trod_int Tryd.underlying3 hy1
  simp at e0 e1
  subst e0 e1
  exact ⟨a, b, rfl, wa, wb⟩

/-- The numbers of a table as cells. -/
def tabCells : DataW Unit → Array Value
  | .agg l => (l.filterMap fun | .lit (.int k n) => some (.int k n) | _ => none).toArray
  | _ => #[]
def layAt (g : Nat) (cs : Array Value) (w : World) : World :=
  { w with heap := w.heap.modify g fun
      | .cells _ t frozen => .cells cs t frozen
      | o => o }
/-- The world of the witness: the tables hold what their initialisers lay. -/
noncomputable def laidWorld (os : Os) : World :=
  layAt 3 (tabCells Rows.laid_internal_strconv_uint64pow10) (layAt 5 (tabCells Rows.laid_math_bits_deBruijn64tab) (layAt 4 (tabCells Rows.laid_math_bits_deBruijn32tab) (World.holding Tryd.prog os ⟨#[], #[], []⟩)))
end Go.Proofs.YtoipapcbngknfaaDoor
