/- What the laws' frames have in common: how a stamp that came in is read, the table of powers, the world of the witness. -/
import Derived.Test.YtjldpodehffbnaaDoorCards
import Derived.Test.YtjldpodehffbnaaDoorTie
import Derived.Test.YtjldpodehffbnaaDoorText
import Derived.ProofKit
import Derived.OpenShut
import Derived.Deep.DeepHandedRow
import Derived.Lib.LaidTab
import Derived.Lib.SmallJoins
namespace Go.Proofs.YtjldpodehffbnaaDoor
set_option linter.unusedVariables false
set_option linter.unnecessarySimpa false
set_option linter.unusedSimpArgs false
open Go.ChangeShapes Go.WideShapes Go.ChangeAt Go.RowKit Go.Joins

theorem Tryd.own : ownKnob Tryd.prog.godebug = none := by kernel_rfl
theorem Tryd.laidOut : laidOutB Tryd.prog = true := by kernel_rfl
theorem Tryd.cells24 : Tryd.prog.cellsOf 24 = 2 := by kernel_rfl
theorem Tryd.cells3 : Tryd.prog.cellsOf 3 = 1 := by kernel_rfl

theorem laidMet_tail {P : Program} {x : String × DataW Unit} {l : List (String × DataW Unit)} {W : World} (h : laidMet P (x :: l) W) : laidMet P l W := by
  obtain ⟨ps, ⟨g, t, cs, fuel, p, q, hg, ht, hv, hd, hr, hp⟩, hz⟩ := h
  subst hp
  exact ⟨q, hr, (List.nodup_append.1 hz.1).2.1, fun b o hm => hz.2 b o (List.mem_append.2 (.inr hm))⟩
/-- The rows' list gives the table of powers. -/
theorem pow10_of_laid {W : World} (h : laidMetH Tryd.prog Rows.stampChecksRow.laid W) : Pow10 W := by
  have h0 : laidMet Tryd.prog Rows.stampChecksRow.laid W := h
  exact Lib.tabIs_of_head (rest := []) gPow (t := 112) (e := 95) (n := 20) (by kernel_rfl) Tryd.underlying112 Tryd.underlying95 (by kernel_rfl) (by kernel_rfl) (laidMet_tail (laidMet_tail h0))

/-- A slice of integers that came in reads as a list. -/
theorem sl_of_ints {w : World} {a : Addr} {len cap : Nat} {zs : List Int} (hl : len ≤ cap) (hz : zs.length = cap) (hc : ∀ i, i < zs.length → w.cell? (a.add i) = some (.int .i64 (zs.getD i 0))) :
    Sl w (some a) len (i64s (zs.take len)) := by
  refine ⟨by simp; omega, fun h0 => ?_⟩
  obtain ⟨b, off, spot⟩ := a
  have h1 := hc 0 (by omega)
  have hs : spot = none := by simpa [Addr.add] using World.cell?_spot h1
  subst hs
  refine ⟨b, off, rfl, ?_, fun j u hu => ?_⟩
  · have := cell_lt h1
    simpa [Addr.add] using this
  · simp only [List.getElem?_map, List.getElem?_take] at hu
    split at hu
    · rename_i hj
      have hj' : j < zs.length := by omega
      rw [List.getElem?_eq_getElem hj'] at hu
      simp only [Option.map_some, Option.some.injEq] at hu
      subst hu
      have := hc j hj'
      rw [show zs.getD j 0 = zs[j] by simp [List.getD, hj']] at this
      have e : (Addr.add ⟨b, off, none⟩ j) = ⟨b, off + j, none⟩ := by unfold Addr.add; split <;> simp_all
      rw [e] at this
      exact this
    · cases hu
set_option maxRecDepth 20000 in set_option maxHeartbeats 400000 in
theorem open_stamp {H : Type} {enc : TypeId × Value → H} {W : World} {v : Value} {d : DataW H} {p : List MemPlace} {base : Nat}
    (hv : Value.okWide Tryd.prog W .any base 24 v) (h : DataW.Trod enc Tryd.prog W 0 (fun _ => true) true 24 v d p) : ∃ e A n c xs, v = .agg #[.int .i64 e, .slice A n c] ∧ StIs W e A n c xs := by
  obtain ⟨c0, c1, y0, y1, m, rfl, rfl, rfl, hy0, hy1⟩ := open_agg2 Tryd.underlying24 (by kernel_rfl) Tryd.cells24 hv h
  obtain ⟨a, e0, hya, wa⟩ := DataW.trod_int Tryd.underlying3 hy0
  simp at e0
  subst e0
  rcases open_ints Tryd.underlying22 Tryd.underlying3 Tryd.cells3 hy1 with ⟨hcs, _⟩ | ⟨x, l, c, zs, hcs, _, hl, hm, hz, _, hcell, hwz⟩
  · simp at hcs
    subst hcs
    exact ⟨a, none, 0, 0, [], rfl, ⟨Nat.le_refl _, Nat.zero_le _, Sl.nil _ _⟩, wa⟩
  · simp at hcs
    subst hcs
    exact ⟨a, some x, l, c, zs.take l, rfl, ⟨hl, hm, sl_of_ints hl (by simpa using hz) hcell⟩, wa⟩
set_option maxRecDepth 20000 in set_option maxHeartbeats 400000 in
theorem open_intsl {H : Type} {enc : TypeId × Value → H} {W : World} {v : Value} {d : DataW H} {p : List MemPlace} {base : Nat}
    (hv : Value.okWide Tryd.prog W .any base 22 v) (h : DataW.Trod enc Tryd.prog W 0 (fun _ => true) true 22 v d p) : ∃ A n c xs, v = .slice A n c ∧ SlIs W A n c xs := by
  obtain ⟨a0, len, cap, rfl⟩ := okWide_slice Tryd.underlying22 hv
  obtain ⟨fuel, hf⟩ := h
  rcases open_ints Tryd.underlying22 Tryd.underlying3 Tryd.cells3 hf with ⟨hcs, _⟩ | ⟨x, l, c, zs, hcs, _, hl, hm, hz, _, hcell, hwz⟩
  · simp [Value.cells] at hcs
    obtain ⟨rfl, rfl, rfl⟩ := hcs
    exact ⟨none, 0, 0, [], rfl, Nat.le_refl _, Nat.zero_le _, Sl.nil _ _⟩
  · simp [Value.cells] at hcs
    obtain ⟨rfl, rfl, rfl⟩ := hcs
    exact ⟨some x, len, cap, zs.take len, rfl, hl, hm, sl_of_ints hl (by simpa using hz) hcell⟩

/-- The numbers of a table as cells. -/
def tabCells : DataW Unit → Array Value
  | .agg l => (l.filterMap fun | .lit (.int k n) => some (.int k n) | _ => none).toArray
  | _ => #[]
def layAt (g : Nat) (cs : Array Value) (w : World) : World :=
  { w with heap := w.heap.modify g fun
      | .cells _ t frozen => .cells cs t frozen
      | o => o }
/-- The world of the witness: the tables hold what their initialisers lay. -/
noncomputable def laidWorld (os : Os) : World :=
  layAt 1 (tabCells Rows.laid_internal_strconv_uint64pow10) (layAt 7 (tabCells Rows.laid_math_bits_deBruijn64tab) (layAt 6 (tabCells Rows.laid_math_bits_deBruijn32tab) (World.holding Tryd.prog os ⟨#[], #[], []⟩)))
end Go.Proofs.YtjldpodehffbnaaDoor
