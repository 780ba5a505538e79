/- device laws: how a list of operations that comes in is read, and bytes. -/
import Derived.Test.YtphjgembpcikdaaSlRw
import Derived.Test.YtphjgembpcikdaaVOp
namespace Go.Proofs.Ytphjgembpcikdaa
set_option linter.unusedVariables false
set_option linter.unnecessarySimpa false
set_option linter.unusedSimpArgs false
open Go.ChangeShapes Go.WideShapes Go.ChangeAt Go.RowKit Go.Joins

theorem Try.cells42 : Try.prog.cellsOf 42 = 5 := by kernel_rfl
theorem Try.cells5 : Try.prog.cellsOf 5 = 1 := by kernel_rfl
theorem Try.cells3 : Try.prog.cellsOf 3 = 1 := by kernel_rfl
def LOp.cells (o : LOp) : List Value := [.int .u8 o.kind, .int .u8 o.name, .int .u8 o.other, .int .u8 o.data, .int .i64 o.num]
/-- A list of operations. -/
def OpsW (w : World) (A : Option Addr) (n c : Nat) (ops : List LOp) : Prop := ∃ xs, Rw Any' w 5 A n c xs ∧ ops.length = n ∧ ∀ j o, ops[j]? = some o → (xs.drop (j * 5)).take 5 = o.cells ∧ o.Fit
theorem OpsW.grow {w w' : World} {A : Option Addr} {n c : Nat} {ops : List LOp} (h : OpsW w A n c ops) (hb : Below w.heap.size w w') : OpsW w' A n c ops :=
  let ⟨xs, h1, h2, h3⟩ := h; ⟨xs, h1.grow hb, h2, h3⟩
theorem OpsW.len {w : World} {A : Option Addr} {n c : Nat} {ops : List LOp} (h : OpsW w A n c ops) : ops.length = n ∧ n ≤ c ∧ c ≤ maxLen := by
  obtain ⟨xs, h1, h2, h3⟩ := h
  exact ⟨h2, h1.1, h1.2.1⟩
theorem OpsW.at_ {w : World} {A : Option Addr} {n c : Nat} {ops : List LOp} (h : OpsW w A n c ops) {j : Nat} {o : LOp} (ho : ops[j]? = some o) : ∃ b off, A = some ⟨b, off, none⟩ ∧ b < w.heap.size ∧
    w.cell? ⟨b, off + j * 5, none⟩ = some (.int .u8 o.kind) ∧ w.cell? ⟨b, off + j * 5 + 1, none⟩ = some (.int .u8 o.name) ∧ w.cell? ⟨b, off + j * 5 + 2, none⟩ = some (.int .u8 o.other) ∧ w.cell? ⟨b, off + j * 5 + 3, none⟩ = some (.int .u8 o.data) ∧ w.cell? ⟨b, off + j * 5 + 4, none⟩ = some (.int .i64 o.num) ∧ o.Fit := by
  obtain ⟨xs, h1, h2, h3⟩ := h
  have hj : j < n := by rw [← h2]; exact (List.getElem?_eq_some_iff.1 ho).1
  obtain ⟨b, off, e, hl, _, _, hc⟩ := h1.at_ (by decide) hj
  obtain ⟨h4, h5⟩ := h3 j o ho
  rw [h4] at hc
  exact ⟨b, off, e, hl, hc 0 _ rfl, hc 1 _ rfl, hc 2 _ rfl, hc 3 _ rfl, hc 4 _ rfl, h5⟩
theorem OpsW.take {w : World} {A : Option Addr} {n c : Nat} {ops : List LOp} (h : OpsW w A n c ops) {k : Nat} (hk : k ≤ n) : OpsW w A k c (ops.take k) := by
  obtain ⟨xs, ⟨h1, h1b, h1c, h1d⟩, h2, h3⟩ := h
  have e : k * 5 ≤ n * 5 := Nat.mul_le_mul_right 5 hk
  refine ⟨xs.take (k * 5), ⟨by omega, h1b, h1c.take e, fun h0 => h1d (by omega)⟩, by rw [List.length_take]; omega, fun j o hj => ?_⟩
  rw [List.getElem?_take] at hj
  split at hj
  · rename_i hjk
    obtain ⟨h4, h5⟩ := h3 j o hj
    refine ⟨?_, h5⟩
    rw [List.drop_take, List.take_take, ← h4]
    congr 1
    have : (j + 1) * 5 ≤ k * 5 := Nat.mul_le_mul_right 5 hjk
    omega
  · cases hj
section
variable {H : Type} {enc : TypeId × Value → H} {W : World}
theorem u8_of {fuel : Nat} {c : Value} {x : DataW H × List MemPlace} (h : Tr enc W fuel 5 [c] x) : ∃ n : Nat, c = .int .u8 n ∧ n ≤ 255 := by
  obtain ⟨z, hz, _, wz⟩ := DataW.trod_int Try.underlying5 h
  have e2 : IntKind.u8.min = 0 := rfl
  have e3 : IntKind.u8.max = 255 := rfl
  simp [Lit.wf, e2, e3] at wz
  refine ⟨z.toNat, ?_, by omega⟩
  have : c = .int .u8 z := by simpa using hz
  rw [this, Int.toNat_of_nonneg wz.1]
theorem i64_of {fuel : Nat} {c : Value} {x : DataW H × List MemPlace} (h : Tr enc W fuel 3 [c] x) : ∃ n : Int, c = .int .i64 n ∧ -9223372036854775808 ≤ n ∧ n ≤ 9223372036854775807 := by
  obtain ⟨z, hz, _, wz⟩ := DataW.trod_int Try.underlying3 h
  refine ⟨z, by simpa using hz, ?_⟩
  simp [Lit.wf, IntKind.min, IntKind.max, IntKind.signed, IntKind.bits] at wz
  omega
set_option maxRecDepth 200000 in
theorem lop_of {fuel : Nat} {cs : List Value} {x : DataW H × List MemPlace} (h : Tr enc W fuel 42 cs x) : ∃ o : LOp, cs = o.cells ∧ o.Fit := by
  obtain ⟨ys, k', hk', rfl, hl', hlen', hf'⟩ := DataW.trod_struct Try.underlying42 h
  rw [Try.cells42] at hl'
  obtain ⟨a, b, c, d, e, rfl⟩ := list5 hl'
  obtain ⟨y0, y1, y2, y3, y4, rfl⟩ := list5 (show ys.length = 5 from hlen')
  have g0 : Tr enc W k' 5 ((([a, b, c, d, e] : List Value).drop 0).take (Try.prog.cellsOf 5)) y0 := hf' 0 _ rfl
  have g1 : Tr enc W k' 5 ((([a, b, c, d, e] : List Value).drop 1).take (Try.prog.cellsOf 5)) y1 := hf' 1 _ rfl
  have g2 : Tr enc W k' 5 ((([a, b, c, d, e] : List Value).drop 2).take (Try.prog.cellsOf 5)) y2 := hf' 2 _ rfl
  have g3 : Tr enc W k' 5 ((([a, b, c, d, e] : List Value).drop 3).take (Try.prog.cellsOf 5)) y3 := hf' 3 _ rfl
  have g4 : Tr enc W k' 3 ((([a, b, c, d, e] : List Value).drop 4).take (Try.prog.cellsOf 3)) y4 := hf' 4 _ rfl
  rw [Try.cells5] at g0 g1 g2 g3
  rw [Try.cells3] at g4
  obtain ⟨n0, rfl, l0⟩ := u8_of g0
  obtain ⟨n1, rfl, l1⟩ := u8_of g1
  obtain ⟨n2, rfl, l2⟩ := u8_of g2
  obtain ⟨n3, rfl, l3⟩ := u8_of g3
  obtain ⟨n4, rfl, l4, l5⟩ := i64_of g4
  exact ⟨⟨n0, n1, n2, n3, n4⟩, rfl, ⟨l0, l1, l2, l3, l4, l5⟩⟩
set_option maxRecDepth 200000 in
theorem open_lops {v : Value} {d : DataW H} {p : List MemPlace} {base : Nat} (hv : Value.okWide Try.prog W .any base 38 v)
    (h : DataW.Trod enc Try.prog W 0 (fun _ => true) true 38 v d p) : ∃ A n c l, v = .slice A n c ∧ OpsW W A n c l := by
  obtain ⟨a0, len, cap, rfl⟩ := okWide_slice Try.underlying38 hv
  obtain ⟨fuel, hf⟩ := h
  obtain ⟨A, n, c, xs, he, hr, hx⟩ := slice_rw Try.underlying38 Try.cells42 (by decide) hf
  have each : ∀ j, j < n → ∃ o : LOp, (xs.drop (j * 5)).take 5 = o.cells ∧ o.Fit := by
    intro j hj
    rcases hx with ⟨_, rfl⟩ | ⟨m, elems, sp, _, hd, _, hel⟩
    · omega
    · obtain ⟨y, hy1, hy2⟩ := hel j hj
      exact lop_of hy2
  obtain ⟨l, hl, hp⟩ := choose_list n each
  exact ⟨A, n, c, l, he, xs, hr, hl, fun j o hj => hp j o hj⟩
set_option maxRecDepth 200000 in
/-- One operation. -/
theorem open_lop {v : Value} {d : DataW H} {p : List MemPlace} {base : Nat} (hv : Value.okWide Try.prog W .any base 42 v)
    (h : DataW.Trod enc Try.prog W 0 (fun _ => true) true 42 v d p) : ∃ o : LOp, v = o.val ∧ o.Fit := by
  simp only [Value.okWide, Try.underlying42] at hv
  obtain ⟨cs, rfl, hsz, _⟩ := hv
  obtain ⟨fuel, hf⟩ := h
  obtain ⟨o, ho, hF⟩ := lop_of hf
  refine ⟨o, ?_, hF⟩
  have e : cs = o.cells.toArray := Array.toList_inj.1 ho
  rw [e]
  rfl
theorem slice_lt {P : Program} {e t : TypeId} {w : World} {base : Nat} {ad : Addr} {n c : Nat} (ht : P.underlying t = some (.slice e)) (h : Value.okWide P w .any base t (.slice (some ad) n c)) : ad.block < w.heap.size := by
  simp only [Value.okWide, ht, Cell.okWide, Cell.ok] at h
  obtain ⟨_, _, _, _, row, cells, hs, _⟩ := h
  unfold World.shape? at hs
  rcases Nat.lt_or_ge ad.block w.heap.size with h' | h'
  · exact h'
  · rw [Array.getElem?_eq_none h'] at hs
    cases hs
/-- Bytes: their cells, and that they lie in old memory. -/
def BytesW (w : World) (A : Option Addr) (n c : Nat) (l : List UInt8) : Prop := Sl w A n (u8s l) ∧ n ≤ c ∧ c ≤ maxLen ∧ ∀ ad, A = some ad → ad.block < w.heap.size
set_option maxRecDepth 200000 in
theorem open_bytesW {v : Value} {d : DataW H} {p : List MemPlace} {base : Nat} (hv : Value.okWide Try.prog W .any base 39 v)
    (h : DataW.Trod enc Try.prog W 0 (fun _ => true) true 39 v d p) : ∃ A n c l, v = .slice A n c ∧ BytesW W A n c l := by
  obtain ⟨a0, len, cap, rfl⟩ := okWide_slice Try.underlying39 hv
  obtain ⟨fuel, hf⟩ := h
  obtain ⟨A, n, c, xs, he, hr, hx⟩ := slice_rw Try.underlying39 Try.cells5 (by decide) hf
  have each : ∀ j, j < n → ∃ o : UInt8, xs[j]? = some (.int .u8 o.toNat) := by
    intro j hj
    rcases hx with ⟨_, rfl⟩ | ⟨m, elems, sp, _, hd, _, hel⟩
    · omega
    · obtain ⟨y, hy1, hy2⟩ := hel j hj
      have hl := hr.2.2.1.1
      rw [Nat.mul_one] at hl
      rw [Nat.mul_one] at hy2
      have e1 : (xs.drop j).take 1 = [xs[j]] := by
        rw [List.drop_eq_getElem_cons (by omega), List.take_succ_cons, List.take_zero]
      rw [e1] at hy2
      obtain ⟨k, hk, hk2⟩ := u8_of hy2
      refine ⟨UInt8.ofNat k, ?_⟩
      rw [List.getElem?_eq_getElem (by omega), hk, UInt8.toNat_ofNat_of_lt' (show k < 256 by omega)]
  obtain ⟨l, hl, hp⟩ := choose_list n each
  have hxs : xs = u8s l := by
    have hln := hr.2.2.1.1
    rw [Nat.mul_one] at hln
    apply List.ext_getElem?
    intro j
    unfold u8s
    rw [List.getElem?_map]
    rcases Nat.lt_or_ge j l.length with hj | hj
    · rw [List.getElem?_eq_getElem hj, hp j _ (List.getElem?_eq_getElem hj)]
      rfl
    · rw [List.getElem?_eq_none hj, List.getElem?_eq_none (by omega)]
      rfl
  obtain ⟨h1, h2, h3, h4⟩ := hr
  rw [Nat.mul_one, hxs] at h3
  refine ⟨A, n, c, l, he, h3, h1, h2, fun ad had => ?_⟩
  subst had
  cases he
  exact slice_lt Try.underlying39 hv
end
end Go.Proofs.Ytphjgembpcikdaa
