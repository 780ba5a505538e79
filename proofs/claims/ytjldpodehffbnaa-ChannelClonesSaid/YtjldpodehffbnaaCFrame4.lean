/- How a list of plays, or one play, that comes in is read. -/
import Derived.Test.YtjldpodehffbnaaCFrame3
import Derived.Test.YtjldpodehffbnaaPlay2
namespace Go.Proofs.Ytjldpodehffbnaa
set_option linter.unusedVariables false
set_option linter.unnecessarySimpa false
set_option linter.unusedSimpArgs false
open Go.ChangeShapes Go.WideShapes Go.ChangeAt Go.RowKit Go.Joins

theorem Try.cells78 : Try.prog.cellsOf 78 = 2 := by kernel_rfl
theorem Try.cells38 : Try.prog.cellsOf 38 = 1 := by kernel_rfl
theorem list_two {α : Type} {l : List α} (h : l.length = 2) : ∃ a b, l = [a, b] := by
  match l, h with
  | [a, b], _ => exact ⟨a, b, rfl⟩
section
variable {H : Type} {enc : TypeId × Value → H} {W : World}
set_option maxRecDepth 200000 in
theorem ops_of {fuel : Nat} {c : Value} {x : DataW H × List MemPlace} (hf : Tr enc W fuel 38 [c] x) (hw : Light Try.prog 38 x.1) :
    ∃ A n cp l, c = .slice A n cp ∧ (∃ xs, OpsV Any' W A n cp xs l) ∧ ∀ o ∈ l, 0 ≤ o.1 ∧ o.1 ≤ 255 := by
  obtain ⟨A, n, cp, xs, he, hr, hx⟩ := slice_rw Try.underlying38 Try.cells37 (by decide) hf
  have each : ∀ j, j < n → ∃ o : Int × It, (∃ cs, (xs.drop (j * 12)).take 12 = .int .u8 o.1 :: cs ∧ ItemV Any' W cs o.2) ∧ 0 ≤ o.1 ∧ o.1 ≤ 255 := by
    intro j hj
    rcases hx with ⟨_, rfl⟩ | ⟨m, elems, sp, _, hd, _, hel⟩
    · omega
    · obtain ⟨y, hy1, hy2⟩ := hel j hj
      rw [hd] at hw
      have wy : Light Try.prog 37 y.1 := (hw.slice Try.underlying38).2 _ (List.mem_of_getElem? hy1)
      obtain ⟨ys, k', hk', rfl, hl', hlen', hf'⟩ := DataW.trod_struct Try.underlying37 hy2
      rw [Try.cells37] at hl'
      obtain ⟨a, cs, hcs, hcl⟩ := list12 hl'
      rw [hcs] at hf' ⊢
      obtain ⟨y0, y1, rfl⟩ := list2 (show ys.length = 2 from hlen')
      have g0 : Tr enc W k' 5 (((a :: cs : List Value).drop 0).take (Try.prog.cellsOf 5)) y0 := hf' 0 _ rfl
      have g1 : Tr enc W k' 33 (((a :: cs : List Value).drop 1).take (Try.prog.cellsOf 33)) y1 := hf' 1 _ rfl
      rw [Try.cells5] at g0
      rw [Try.cells33] at g1
      have e1 : ((a :: cs : List Value).drop 1).take 11 = cs := by
        rw [List.drop_succ_cons, List.drop_zero, List.take_of_length_le (by omega)]
      rw [e1] at g1
      obtain ⟨z, hz, _, wz⟩ := DataW.trod_int Try.underlying5 g0
      have e2 : IntKind.u8.min = 0 := rfl
      have e3 : IntKind.u8.max = 255 := rfl
      simp [Lit.wf, e2, e3] at wz
      obtain ⟨it, hit⟩ := item_of g1 (wy.part Try.underlying37 (j := 1) rfl rfl)
      refine ⟨(z, it), ⟨cs, ?_, hit⟩, wz.1, wz.2⟩
      have : a = .int .u8 z := by simpa using hz
      rw [this]
  obtain ⟨l, hl, hp⟩ := choose_list n each
  refine ⟨A, n, cp, l, he, ⟨xs, hr, hl, fun j k it hj => (hp j (k, it) hj).1⟩, fun o ho => ?_⟩
  obtain ⟨j, hj, rfl⟩ := List.getElem_of_mem ho
  exact (hp j _ (List.getElem?_eq_getElem hj)).2
/-- The cells of one play. -/
def PlayV (W : World) (cs : List Value) (k : Nat) (ops : List (Int × It)) : Prop := k ≤ 255 ∧ (∀ o ∈ ops, 0 ≤ o.1 ∧ o.1 ≤ 255) ∧ ∃ A' n' c' ys, cs = [.int .u8 k, .slice A' n' c'] ∧ OpsV Any' W A' n' c' ys ops
set_option maxRecDepth 200000 in
theorem play_of {fuel : Nat} {cs : List Value} {x : DataW H × List MemPlace} (h : Tr enc W fuel 78 cs x) (hw : Light Try.prog 78 x.1) : ∃ k ops, PlayV W cs k ops := by
  obtain ⟨ys, k', hk', rfl, hl', hlen', hf'⟩ := DataW.trod_struct Try.underlying78 h
  rw [Try.cells78] at hl'
  obtain ⟨a, b, rfl⟩ := list_two hl'
  obtain ⟨y0, y1, rfl⟩ := list2 (show ys.length = 2 from hlen')
  have g0 : Tr enc W k' 5 ((([a, b] : List Value).drop 0).take (Try.prog.cellsOf 5)) y0 := hf' 0 _ rfl
  have g1 : Tr enc W k' 38 ((([a, b] : List Value).drop 1).take (Try.prog.cellsOf 38)) y1 := hf' 1 _ rfl
  rw [Try.cells5] at g0
  rw [Try.cells38] at g1
  obtain ⟨z, hz, _, wz⟩ := DataW.trod_int Try.underlying5 g0
  have e2 : IntKind.u8.min = 0 := rfl
  have e3 : IntKind.u8.max = 255 := rfl
  simp [Lit.wf, e2, e3] at wz
  obtain ⟨A, n, cp, l, he, ⟨xs, hO⟩, hkd⟩ := ops_of (c := b) g1 (hw.part Try.underlying78 (j := 1) rfl rfl)
  have ha : a = .int .u8 z := by simpa using hz
  refine ⟨z.toNat, l, by omega, hkd, A, n, cp, xs, ?_, hO⟩
  rw [ha, he, Int.toNat_of_nonneg wz.1]
set_option maxRecDepth 200000 in
theorem open_plays {v : Value} {d : DataW H} {p : List MemPlace} {base : Nat} (hv : Value.okWide Try.prog W .any base 62 v)
    (h : DataW.Trod enc Try.prog W 0 (fun _ => true) true 62 v d p) (hw : Light Try.prog 62 d) : ∃ A n c ps, v = .slice A n c ∧ ∃ xs, PlaysV Any' W A n c xs ps := by
  obtain ⟨a0, len, cap, rfl⟩ := okWide_slice Try.underlying62 hv
  obtain ⟨fuel, hf⟩ := h
  obtain ⟨A, n, c, xs, he, hr, hx⟩ := slice_rw Try.underlying62 Try.cells78 (by decide) hf
  have each : ∀ j, j < n → ∃ o : Nat × List (Int × It), PlayV W ((xs.drop (j * 2)).take 2) o.1 o.2 := by
    intro j hj
    rcases hx with ⟨_, rfl⟩ | ⟨m, elems, sp, _, hd, _, hel⟩
    · omega
    · obtain ⟨y, hy1, hy2⟩ := hel j hj
      have hd' : d = .slice elems sp := hd
      rw [hd'] at hw
      have wy : Light Try.prog 78 y.1 := (hw.slice Try.underlying62).2 _ (List.mem_of_getElem? hy1)
      obtain ⟨k, ops, ho⟩ := play_of hy2 wy
      exact ⟨(k, ops), ho⟩
  obtain ⟨l, hl, hp⟩ := choose_list n each
  exact ⟨A, n, c, l, he, xs, hr, hl, fun j k ops hj => hp j (k, ops) hj⟩
end
end Go.Proofs.Ytjldpodehffbnaa
