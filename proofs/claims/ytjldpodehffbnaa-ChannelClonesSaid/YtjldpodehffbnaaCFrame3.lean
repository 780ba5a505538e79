/- How a list of operations that comes in is read. -/
import Derived.Test.YtjldpodehffbnaaCFrame
namespace Go.Proofs.Ytjldpodehffbnaa
set_option linter.unusedVariables false
set_option linter.unnecessarySimpa false
set_option linter.unusedSimpArgs false
open Go.ChangeShapes Go.WideShapes Go.ChangeAt Go.RowKit Go.Joins

theorem Try.cells37 : Try.prog.cellsOf 37 = 12 := by kernel_rfl
theorem Try.cells5 : Try.prog.cellsOf 5 = 1 := by kernel_rfl
theorem list12 {α : Type} {l : List α} (h : l.length = 12) : ∃ a l', l = a :: l' ∧ l'.length = 11 := by
  match l, h with
  | a :: l', h => exact ⟨a, l', rfl, by simpa using h⟩
theorem choose_list {α : Type} {p : Nat → α → Prop} : ∀ (n : Nat), (∀ j, j < n → ∃ a, p j a) → ∃ l : List α, l.length = n ∧ ∀ j a, l[j]? = some a → p j a
  | 0, _ => ⟨[], rfl, fun j a h => by simp at h⟩
  | n + 1, h => by
    obtain ⟨l, hl, hp⟩ := choose_list n fun j hj => h j (by omega)
    obtain ⟨a, ha⟩ := h n (by omega)
    refine ⟨l ++ [a], by simp [hl], fun j x hx => ?_⟩
    rcases Nat.lt_or_ge j l.length with hj | hj
    · rw [List.getElem?_append_left hj] at hx
      exact hp j x hx
    · have hjn : j = n := by
        have := (List.getElem?_eq_some_iff.1 hx).1
        simp at this
        omega
      subst hjn
      rw [List.getElem?_append_right hj, hl, Nat.sub_self] at hx
      cases hx
      exact ha
set_option maxRecDepth 200000 in
theorem open_ops {H : Type} {enc : TypeId × Value → H} {W : World} {v : Value} {d : DataW H} {p : List MemPlace} {base : Nat} (hv : Value.okWide Try.prog W .any base 38 v)
    (h : DataW.Trod enc Try.prog W 0 (fun _ => true) true 38 v d p) (hw : Light Try.prog 38 d) : ∃ A n c l, v = .slice A n c ∧ (∃ xs, OpsV Any' W A n c xs l) ∧ ∀ o ∈ l, 0 ≤ o.1 ∧ o.1 ≤ 255 := by
  obtain ⟨a0, len, cap, rfl⟩ := okWide_slice Try.underlying38 hv
  obtain ⟨fuel, hf⟩ := h
  obtain ⟨A, n, c, xs, he, hr, hx⟩ := slice_rw Try.underlying38 Try.cells37 (by decide) hf
  have each : ∀ j, j < n → ∃ o : Int × It, (∃ cs, (xs.drop (j * 12)).take 12 = .int .u8 o.1 :: cs ∧ ItemV Any' W cs o.2) ∧ 0 ≤ o.1 ∧ o.1 ≤ 255 := by
    intro j hj
    rcases hx with ⟨_, rfl⟩ | ⟨m, elems, sp, _, hd, _, hel⟩
    · omega
    · obtain ⟨y, hy1, hy2⟩ := hel j hj
      have hd' : d = .slice elems sp := hd
      rw [hd'] at hw
      have wy : Light Try.prog 37 y.1 := (hw.slice Try.underlying38).2 _ (List.mem_of_getElem? hy1)
      obtain ⟨ys, k', hk', rfl, hl', hlen', hf'⟩ := DataW.trod_struct Try.underlying37 hy2
      rw [Try.cells37] at hl'
      obtain ⟨a, cs, hcs, hcl⟩ := list12 hl'
      rw [hcs] at hf' ⊢
      obtain ⟨y0, y1, rfl⟩ := list2 (show ys.length = 2 from hlen')
      have g0 : Tr enc W k' 5 (((a :: cs : List Value).drop 0).take (Try.prog.cellsOf 5)) y0 := hf' 0 _ rfl
      have g1 : Tr enc W k' 33 (((a :: cs : List Value).drop 1).take (Try.prog.cellsOf 33)) y1 := hf' 1 _ rfl
      rw [Try.cells5] at g0
      rw [Try.cells33] at g1
      have e1 : ((a :: cs : List Value).drop 1).take 11 = cs := by
        rw [List.drop_succ_cons, List.drop_zero, List.take_of_length_le (by omega)]
      rw [e1] at g1
      obtain ⟨z, hz, _, wz⟩ := DataW.trod_int Try.underlying5 g0
      have e2 : IntKind.u8.min = 0 := rfl
      have e3 : IntKind.u8.max = 255 := rfl
      simp [Lit.wf, e2, e3] at wz
      obtain ⟨it, hit⟩ := item_of g1 (wy.part Try.underlying37 (j := 1) rfl rfl)
      refine ⟨(z, it), ⟨cs, ?_, hit⟩, wz.1, wz.2⟩
      have : a = .int .u8 z := by simpa using hz
      rw [this]
  obtain ⟨l, hl, hp⟩ := choose_list n each
  refine ⟨A, n, c, l, he, ⟨xs, hr, hl, fun j k it hj => (hp j (k, it) hj).1⟩, fun o ho => ?_⟩
  obtain ⟨j, hj, rfl⟩ := List.getElem_of_mem ho
  exact (hp j _ (List.getElem?_eq_getElem hj)).2
end Go.Proofs.Ytjldpodehffbnaa
