/- How a list of numbers, and a list of bytes, that came in is read. -/
import Derived.Test.YtoipapcbngknfaaDoorDFrame
import Derived.Test.YtoipapcbngknfaaDoorLawSums
import Derived.Deep.SlicePairs
namespace Go.Proofs.YtoipapcbngknfaaDoor
set_option linter.unusedVariables false
set_option linter.unnecessarySimpa false
set_option linter.unusedSimpArgs false
open Go.ChangeShapes Go.WideShapes Go.ChangeAt Go.RowKit Go.Joins

set_option maxRecDepth 100000 in
theorem open_bytes {H : Type} {enc : TypeId × Value → H} {W : World} {v : Value} {d : DataW H} {p : List MemPlace} {base : Nat}
    (hv : Value.okWide Tryd.prog W .any base 43 v) (h : DataW.Trod enc Tryd.prog W 0 (fun _ => true) true 43 v d p) :
    ∃ A n c O, v = .slice A n c ∧ (Sl W A n (List.map (Value.int .u8) O) ∧ n ≤ c ∧ c ≤ maxLen ∧ ∀ x ∈ O, (Lit.int .u8 x).wf = true) := by
  obtain ⟨a0, len, cap, rfl⟩ := okWide_slice Tryd.underlying43 hv
  obtain ⟨fuel, hf⟩ := h
  rcases open_ints Tryd.underlying43 Tryd.underlying5 (by kernel_rfl) hf with ⟨hcs, _⟩ | ⟨x, l, c, zs, hcs, _, hl, hm, hz, _, hcell, hwz⟩
  · simp [Value.cells] at hcs
    obtain ⟨rfl, rfl, rfl⟩ := hcs
    exact ⟨none, 0, 0, [], rfl, Sl.nil _ _, Nat.le_refl _, Nat.zero_le _, fun x hx => by cases hx⟩
  · simp [Value.cells] at hcs
    obtain ⟨rfl, rfl, rfl⟩ := hcs
    simp only [if_true] at hz
    refine ⟨some x, len, cap, zs.take len, rfl, ⟨by simp; omega, fun h0 => ?_⟩, hl, hm, fun y hy => hwz y (List.mem_of_mem_take hy)⟩
    obtain ⟨b, off, spot⟩ := x
    have h1 := hcell 0 (by omega)
    have hs : spot = none := by simpa [Addr.add] using World.cell?_spot h1
    subst hs
    refine ⟨b, off, rfl, ?_, fun j u hu => ?_⟩
    · have := cell_lt h1
      simpa [Addr.add] using this
    · simp only [List.getElem?_map, List.getElem?_take] at hu
      split at hu
      · rename_i hj
        have hj' : j < zs.length := by omega
        rw [List.getElem?_eq_getElem hj'] at hu
        simp only [Option.map_some, Option.some.injEq] at hu
        subst hu
        have := hcell j hj'
        rw [show zs.getD j 0 = zs[j] by simp [List.getD, hj']] at this
        have e : (Addr.add ⟨b, off, none⟩ j) = ⟨b, off + j, none⟩ := by unfold Addr.add; split <;> simp_all
        rw [e] at this
        exact this
      · cases hu
set_option maxRecDepth 100000 in
theorem open_numbers {H : Type} {enc : TypeId × Value → H} {W : World} {v : Value} {d : DataW H} {p : List MemPlace} {base : Nat}
    (hv : Value.okWide Tryd.prog W .any base 42 v) (h : DataW.Trod enc Tryd.prog W 0 (fun _ => true) true 42 v d p) :
    ∃ A n c L, v = .slice A n c ∧ (NumsAt W A n L ∧ n ≤ c ∧ c ≤ maxLen ∧ ∀ q ∈ L, (Lit.int .i64 q.1).wf = true) := by
  obtain ⟨a0, len, cap, rfl⟩ := okWide_slice Tryd.underlying42 hv
  obtain ⟨fuel, hf⟩ := h
  rcases Go.Deep.open_slice_pairs Tryd.underlying42 Tryd.underlying23 Tryd.cells23 rfl rfl (by kernel_rfl) (by kernel_rfl) hf with ⟨hcs, _⟩ | ⟨a, l, c, m, k, V0, V1, D0, D1, P0, P1, hcs, _, hl, hm, hmm, _, hcell⟩
  · simp [Value.cells] at hcs
    obtain ⟨rfl, rfl, rfl⟩ := hcs
    exact ⟨none, 0, 0, [], rfl, ⟨Sl.nil _ _, rfl⟩, Nat.le_refl _, Nat.zero_le _, fun x hx => by cases hx⟩
  · simp [Value.cells] at hcs
    obtain ⟨rfl, rfl, rfl⟩ := hcs
    simp only [if_true] at hmm
    subst hmm
    have each : ∀ i, i < len → ∃ x s, V0 i = .int .i64 x ∧ V1 i = .int .i64 s ∧ (Lit.int .i64 x).wf = true := by
      intro i hi
      obtain ⟨_, _, h0, h1⟩ := hcell i (by omega)
      obtain ⟨x, e0, _, wx⟩ := DataW.trod_int Tryd.underlying3 h0
      obtain ⟨s, e1, _, _⟩ := DataW.trod_int Tryd.underlying3 h1
      simp at e0 e1
      exact ⟨x, s, e0, e1, wx⟩
    let f : Nat → Int × Int := fun i => (match V0 i with | .int _ x => x | _ => 0, match V1 i with | .int _ x => x | _ => 0)
    have hf0 : ∀ i, i < len → V0 i = .int .i64 (f i).1 ∧ V1 i = .int .i64 (f i).2 ∧ (Lit.int .i64 (f i).1).wf = true := by
      intro i hi
      obtain ⟨x, s, e0, e1, wx⟩ := each i hi
      simp only [f, e0, e1]
      exact ⟨trivial, trivial, wx⟩
    refine ⟨some a, len, m, (List.range len).map f, rfl, ⟨⟨by rw [numCells_len]; simp, fun h0 => ?_⟩, by simp⟩, hl, hm, fun q hq => ?_⟩
    · obtain ⟨b, off, spot⟩ := a
      have h1 := (hcell 0 (by omega)).1
      have hs : spot = none := by simpa [Addr.add] using World.cell?_spot h1
      subst hs
      refine ⟨b, off, rfl, ?_, fun j u hu => ?_⟩
      · have := cell_lt h1
        simpa [Addr.add] using this
      · have eA : ∀ i, (Addr.add ⟨b, off, none⟩ i) = ⟨b, off + i, none⟩ := fun i => by unfold Addr.add; split <;> simp_all
        obtain ⟨i, q, hq, hh⟩ := numCells_get hu
        have hi : i < len := by
          have := (List.getElem?_eq_some_iff.1 hq).1
          simpa using this
        have hq' : q = f i := by
          rw [List.getElem?_map, List.getElem?_range hi] at hq
          simpa using hq.symm
        subst hq'
        obtain ⟨c0, c1, _, _⟩ := hcell i (by omega)
        obtain ⟨e0, e1, _⟩ := hf0 i hi
        rw [eA, e0] at c0
        rw [eA, e1] at c1
        rcases hh with ⟨rfl, rfl⟩ | ⟨rfl, rfl⟩
        · exact c0
        · rw [← Nat.add_assoc]; exact c1
    · obtain ⟨i, hi, rfl⟩ := List.mem_map.1 hq
      exact (hf0 i (List.mem_range.1 hi)).2.2
end Go.Proofs.YtoipapcbngknfaaDoor
