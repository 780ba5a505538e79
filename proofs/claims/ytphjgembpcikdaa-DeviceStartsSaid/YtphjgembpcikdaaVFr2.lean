/- device laws: how arrays of two that come in are read. -/
import Derived.Test.YtphjgembpcikdaaVOps
namespace Go.Proofs.Ytphjgembpcikdaa
set_option linter.unusedVariables false
set_option linter.unnecessarySimpa false
set_option linter.unusedSimpArgs false
open Go.ChangeShapes Go.WideShapes Go.ChangeAt Go.RowKit Go.Joins

theorem Try.cells32 : Try.prog.cellsOf 32 = 2 := by kernel_rfl
theorem Try.cells9 : Try.prog.cellsOf 9 = 1 := by kernel_rfl
section
variable {H : Type} {enc : TypeId × Value → H} {W : World}
theorem str_of' {fuel : Nat} {c : Value} {x : DataW H × List MemPlace} (h : Tr enc W fuel 9 [c] x) : ∃ s : ByteArray, c = .string s ∧ s.size ≤ maxLen := by
  obtain ⟨n, e, _, hs⟩ := DataW.trod_string Try.underlying9 h
  cases e
  exact ⟨n, rfl, hs⟩
set_option maxRecDepth 200000 in
theorem open_strings2 {v : Value} {d : DataW H} {p : List MemPlace} {base : Nat} (hv : Value.okWide Try.prog W .any base 32 v)
    (h : DataW.Trod enc Try.prog W 0 (fun _ => true) true 32 v d p) : ∃ x y, v = .agg #[.string x, .string y] ∧ x.size ≤ maxLen ∧ y.size ≤ maxLen := by
  simp only [Value.okWide, Try.underlying32] at hv
  obtain ⟨cs, rfl, hsz, _⟩ := hv
  obtain ⟨fuel, hf⟩ := h
  obtain ⟨xs, m, rfl, hx, hl, hn, he⟩ := DataW.trod_array Try.underlying32 hf
  rw [Try.cells32] at hl
  obtain ⟨a, b, hab⟩ := list2 (show cs.toList.length = 2 from hl)
  have h0 := he 0 (by decide)
  have h1 := he 1 (by decide)
  rw [Try.cells9] at h0 h1
  have e : cs = #[a, b] := Array.toList_inj.1 hab
  subst e
  rw [List.getElem?_eq_getElem (by omega)] at h0 h1
  obtain ⟨x, rfl, hx1⟩ := str_of' (c := a) h0
  obtain ⟨y, rfl, hy1⟩ := str_of' (c := b) h1
  exact ⟨x, y, rfl, hx1, hy1⟩
theorem cell_lt' {P : Program} {e t : TypeId} {w : World} {base : Nat} {ad : Addr} {n c : Nat} (ht : P.underlying t = some (.slice e)) (h : Cell.okWide P w .any base t (.slice (some ad) n c)) : ad.block < w.heap.size := by
  simp only [ht, Cell.okWide, Cell.ok] at h
  obtain ⟨_, _, _, _, row, cells, hs, _⟩ := h
  unfold World.shape? at hs
  rcases Nat.lt_or_ge ad.block w.heap.size with h' | h'
  · exact h'
  · rw [Array.getElem?_eq_none h'] at hs
    cases hs
theorem Try.cells56 : Try.prog.cellsOf 56 = 2 := by kernel_rfl
theorem Try.cells39 : Try.prog.cellsOf 39 = 1 := by kernel_rfl
theorem Try.cellTypesB2 : Try.prog.cellTypes Try.prog.depth 56 = some [39, 39] := by kernel_rfl
set_option maxRecDepth 200000 in
theorem bytes_of {fuel : Nat} {v : Value} {x : DataW H × List MemPlace} {base : Nat} (hf : Tr enc W fuel 39 [v] x) (hv : Cell.okWide Try.prog W .any base 39 v) : ∃ A n c l, v = .slice A n c ∧ BytesW W A n c l := by
  obtain ⟨A, n, c, xs, he, hr, hx⟩ := slice_rw Try.underlying39 Try.cells5 (by decide) hf
  have each : ∀ j, j < n → ∃ o : UInt8, xs[j]? = some (.int .u8 o.toNat) := by
    intro j hj
    rcases hx with ⟨_, rfl⟩ | ⟨m, elems, sp, _, hd, _, hel⟩
    · omega
    · obtain ⟨y, hy1, hy2⟩ := hel j hj
      have hl := hr.2.2.1.1
      rw [Nat.mul_one] at hl
      rw [Nat.mul_one] at hy2
      have e1 : (xs.drop j).take 1 = [xs[j]] := by
        rw [List.drop_eq_getElem_cons (by omega), List.take_succ_cons, List.take_zero]
      rw [e1] at hy2
      obtain ⟨k, hk, hk2⟩ := u8_of hy2
      refine ⟨UInt8.ofNat k, ?_⟩
      rw [List.getElem?_eq_getElem (by omega), hk, UInt8.toNat_ofNat_of_lt' (show k < 256 by omega)]
  obtain ⟨l, hl, hp⟩ := choose_list n each
  have hxs : xs = u8s l := by
    have hln := hr.2.2.1.1
    rw [Nat.mul_one] at hln
    apply List.ext_getElem?
    intro j
    unfold u8s
    rw [List.getElem?_map]
    rcases Nat.lt_or_ge j l.length with hj | hj
    · rw [List.getElem?_eq_getElem hj, hp j _ (List.getElem?_eq_getElem hj)]
      rfl
    · rw [List.getElem?_eq_none hj, List.getElem?_eq_none (by omega)]
      rfl
  obtain ⟨h1, h2, h3, h4⟩ := hr
  rw [Nat.mul_one, hxs] at h3
  refine ⟨A, n, c, l, he, h3, h1, h2, fun ad had => ?_⟩
  subst had
  subst he
  exact cell_lt' Try.underlying39 hv
set_option maxRecDepth 200000 in
theorem open_bytes2 {v : Value} {d : DataW H} {p : List MemPlace} {base : Nat} (hv : Value.okWide Try.prog W .any base 56 v)
    (h : DataW.Trod enc Try.prog W 0 (fun _ => true) true 56 v d p) : ∃ A n c l B m e k, v = .agg #[.slice A n c, .slice B m e] ∧ (BytesW W A n c l ∧ BytesW W B m e k) := by
  simp only [Value.okWide, Try.underlying56] at hv
  obtain ⟨cs, rfl, hsz, ts, hts, _, hrow⟩ := hv
  rw [Try.cellTypesB2] at hts
  cases hts
  obtain ⟨fuel, hf⟩ := h
  obtain ⟨xs, m, rfl, hx, hl, hn, he⟩ := DataW.trod_array Try.underlying56 hf
  rw [Try.cells56] at hl
  obtain ⟨a, b, hab⟩ := list2 (show cs.toList.length = 2 from hl)
  have h0 := he 0 (by decide)
  have h1 := he 1 (by decide)
  rw [Try.cells39] at h0 h1
  have e : cs = #[a, b] := Array.toList_inj.1 hab
  subst e
  rw [List.getElem?_eq_getElem (by omega)] at h0 h1
  obtain ⟨u0, hu0, r0⟩ := hrow 0 a rfl
  obtain ⟨u1, hu1, r1⟩ := hrow 1 b rfl
  have e0 : u0 = 39 := (Option.some.inj hu0).symm
  have e1 : u1 = 39 := (Option.some.inj hu1).symm
  subst e0
  subst e1
  obtain ⟨A, n, c, l, rfl, hA⟩ := bytes_of (v := a) h0 r0
  obtain ⟨B, m', e', k, rfl, hB⟩ := bytes_of (v := b) h1 r1
  exact ⟨A, n, c, l, B, m', e', k, rfl, hA, hB⟩
end
end Go.Proofs.Ytphjgembpcikdaa
