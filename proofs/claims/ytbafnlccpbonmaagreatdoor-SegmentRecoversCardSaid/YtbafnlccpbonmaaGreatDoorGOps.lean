/- The laws' lists of operations that come in, and bytes. -/
import Derived.Test.YtbafnlccpbonmaaGreatDoorSlRG
import Derived.Test.YtbafnlccpbonmaaGreatDoorGMa
namespace Go.Proofs.YtbafnlccpbonmaaGreatDoor
set_option linter.unusedVariables false
set_option linter.unnecessarySimpa false
set_option linter.unusedSimpArgs false
open Go.ChangeShapes Go.WideShapes Go.ChangeAt Go.RowKit Go.Joins

theorem Tryz.cells56 : Tryz.prog.cellsOf 56 = 3 := by kernel_rfl
theorem Tryz.cells5 : Tryz.prog.cellsOf 5 = 1 := by kernel_rfl
theorem Tryz.cells33 : Tryz.prog.cellsOf 33 = 1 := by kernel_rfl
theorem Tryz.laidOut : laidOutB Tryz.prog = true := by kernel_rfl
structure GOp where
  kind : Nat
  byte : UInt8
  size : Nat
def GOp.cells (o : GOp) : List Value := [.int .u8 (o.kind : Int), .int .u8 (o.byte.toNat : Int), .int .u16 (o.size : Int)]
def GOp.Fit (o : GOp) : Prop := o.kind ≤ 255 ∧ o.size < 65536
/-- A list of operations. -/
def OpsW (w : World) (A : Option Addr) (n c : Nat) (ops : List GOp) : Prop := ∃ xs, Rw Any' w 3 A n c xs ∧ ops.length = n ∧ ∀ j o, ops[j]? = some o → (xs.drop (j * 3)).take 3 = o.cells ∧ o.Fit
theorem OpsW.grow {w w' : World} {A : Option Addr} {n c : Nat} {ops : List GOp} (h : OpsW w A n c ops) (hb : Below w.heap.size w w') : OpsW w' A n c ops :=
  let ⟨xs, h1, h2, h3⟩ := h; ⟨xs, h1.grow hb, h2, h3⟩
theorem OpsW.len {w : World} {A : Option Addr} {n c : Nat} {ops : List GOp} (h : OpsW w A n c ops) : ops.length = n ∧ n ≤ c ∧ c ≤ maxLen := by
  obtain ⟨xs, h1, h2, h3⟩ := h
  exact ⟨h2, h1.1, h1.2.1⟩
theorem OpsW.at_ {w : World} {A : Option Addr} {n c : Nat} {ops : List GOp} (h : OpsW w A n c ops) {j : Nat} {o : GOp} (ho : ops[j]? = some o) : ∃ b off, A = some ⟨b, off, none⟩ ∧ b < w.heap.size ∧
    w.cell? ⟨b, off + j * 3, none⟩ = some (.int .u8 (o.kind : Int)) ∧ w.cell? ⟨b, off + j * 3 + 1, none⟩ = some (.int .u8 (o.byte.toNat : Int)) ∧ w.cell? ⟨b, off + j * 3 + 2, none⟩ = some (.int .u16 (o.size : Int)) ∧ o.Fit := by
  obtain ⟨xs, h1, h2, h3⟩ := h
  have hj : j < n := by rw [← h2]; exact (List.getElem?_eq_some_iff.1 ho).1
  obtain ⟨b, off, e, hl, _, _, hc⟩ := h1.at_ (by decide) hj
  obtain ⟨h4, h5⟩ := h3 j o ho
  rw [h4] at hc
  exact ⟨b, off, e, hl, hc 0 _ rfl, hc 1 _ rfl, hc 2 _ rfl, h5⟩
section
variable {H : Type} {enc : TypeId × Value → H} {W : World}
theorem u8_of {fuel : Nat} {c : Value} {x : DataW H × List MemPlace} (h : Tr enc W fuel 5 [c] x) : ∃ n : Nat, c = .int .u8 n ∧ n ≤ 255 := by
  obtain ⟨z, hz, _, wz⟩ := DataW.trod_int Tryz.underlying5 h
  have e2 : IntKind.u8.min = 0 := rfl
  have e3 : IntKind.u8.max = 255 := rfl
  simp [Lit.wf, e2, e3] at wz
  refine ⟨z.toNat, ?_, by omega⟩
  have : c = .int .u8 z := by simpa using hz
  rw [this, Int.toNat_of_nonneg wz.1]
theorem u16_of {fuel : Nat} {c : Value} {x : DataW H × List MemPlace} (h : Tr enc W fuel 33 [c] x) : ∃ n : Nat, c = .int .u16 n ∧ n < 65536 := by
  obtain ⟨z, hz, _, wz⟩ := DataW.trod_int Tryz.underlying33 h
  have e2 : IntKind.u16.min = 0 := rfl
  have e3 : IntKind.u16.max = 65535 := rfl
  simp [Lit.wf, e2, e3] at wz
  refine ⟨z.toNat, ?_, by omega⟩
  have : c = .int .u16 z := by simpa using hz
  rw [this, Int.toNat_of_nonneg wz.1]
theorem list3 {α : Type} {l : List α} (h : l.length = 3) : ∃ a b c, l = [a, b, c] := by
  match l, h with
  | [a, b, c], _ => exact ⟨a, b, c, rfl⟩
set_option maxRecDepth 200000 in
theorem gop_of {fuel : Nat} {cs : List Value} {x : DataW H × List MemPlace} (h : Tr enc W fuel 56 cs x) : ∃ o : GOp, cs = o.cells ∧ o.Fit := by
  obtain ⟨ys, k', hk', rfl, hl', hlen', hf'⟩ := DataW.trod_struct Tryz.underlying56 h
  rw [Tryz.cells56] at hl'
  obtain ⟨a, b, c, rfl⟩ := list3 hl'
  obtain ⟨y0, y1, y2, rfl⟩ := list3 (show ys.length = 3 from hlen')
  have g0 : Tr enc W k' 5 ((([a, b, c] : List Value).drop 0).take (Tryz.prog.cellsOf 5)) y0 := hf' 0 _ rfl
  have g1 : Tr enc W k' 5 ((([a, b, c] : List Value).drop 1).take (Tryz.prog.cellsOf 5)) y1 := hf' 1 _ rfl
  have g2 : Tr enc W k' 33 ((([a, b, c] : List Value).drop 2).take (Tryz.prog.cellsOf 33)) y2 := hf' 2 _ rfl
  rw [Tryz.cells5] at g0 g1
  rw [Tryz.cells33] at g2
  obtain ⟨n0, rfl, l0⟩ := u8_of g0
  obtain ⟨n1, rfl, l1⟩ := u8_of g1
  obtain ⟨n2, rfl, l2⟩ := u16_of g2
  refine ⟨⟨n0, UInt8.ofNat n1, n2⟩, ?_, l0, l2⟩
  unfold GOp.cells
  rw [UInt8.toNat_ofNat_of_lt' (show n1 < 256 by omega)]
set_option maxRecDepth 200000 in
theorem open_ops {v : Value} {d : DataW H} {p : List MemPlace} {base : Nat} (hv : Value.okWide Tryz.prog W .any base 42 v)
    (h : DataW.Trod enc Tryz.prog W 0 (fun _ => true) true 42 v d p) : ∃ A n c l, v = .slice A n c ∧ OpsW W A n c l := by
  obtain ⟨a0, len, cap, rfl⟩ := okWide_slice Tryz.underlying42 hv
  obtain ⟨fuel, hf⟩ := h
  obtain ⟨A, n, c, xs, he, hr, hx⟩ := slice_rw Tryz.underlying42 Tryz.cells56 (by decide) hf
  have each : ∀ j, j < n → ∃ o : GOp, (xs.drop (j * 3)).take 3 = o.cells ∧ o.Fit := by
    intro j hj
    rcases hx with ⟨_, rfl⟩ | ⟨m, elems, sp, _, hd, _, hel⟩
    · omega
    · obtain ⟨y, hy1, hy2⟩ := hel j hj
      exact gop_of hy2
  obtain ⟨l, hl, hp⟩ := choose_list n each
  exact ⟨A, n, c, l, he, xs, hr, hl, fun j o hj => hp j o hj⟩
theorem slice_lt {P : Program} {e t : TypeId} {w : World} {base : Nat} {ad : Addr} {n c : Nat} (ht : P.underlying t = some (.slice e)) (h : Value.okWide P w .any base t (.slice (some ad) n c)) : ad.block < w.heap.size := by
  simp only [Value.okWide, ht, Cell.okWide, Cell.ok] at h
  obtain ⟨_, _, _, _, row, cells, hs, _⟩ := h
  unfold World.shape? at hs
  rcases Nat.lt_or_ge ad.block w.heap.size with h' | h'
  · exact h'
  · rw [Array.getElem?_eq_none h'] at hs
    cases hs
/-- Bytes: their cells, and that they lie in old memory. -/
def BytesW (w : World) (A : Option Addr) (n c : Nat) (l : List UInt8) : Prop := Sl w A n (u8s l) ∧ n ≤ c ∧ c ≤ maxLen ∧ ∀ ad, A = some ad → ad.block < w.heap.size
set_option maxRecDepth 200000 in
theorem open_bytesW {v : Value} {d : DataW H} {p : List MemPlace} {base : Nat} (hv : Value.okWide Tryz.prog W .any base 34 v)
    (h : DataW.Trod enc Tryz.prog W 0 (fun _ => true) true 34 v d p) : ∃ A n c l, v = .slice A n c ∧ BytesW W A n c l := by
  obtain ⟨a0, len, cap, rfl⟩ := okWide_slice Tryz.underlying34 hv
  obtain ⟨fuel, hf⟩ := h
  obtain ⟨A, n, c, xs, he, hr, hx⟩ := slice_rw Tryz.underlying34 Tryz.cells5 (by decide) hf
  have each : ∀ j, j < n → ∃ o : UInt8, xs[j]? = some (.int .u8 o.toNat) := by
    intro j hj
    rcases hx with ⟨_, rfl⟩ | ⟨m, elems, sp, _, hd, _, hel⟩
    · omega
    · obtain ⟨y, hy1, hy2⟩ := hel j hj
      have hl := hr.2.2.1.1
      rw [Nat.mul_one] at hl
      rw [Nat.mul_one] at hy2
      have e1 : (xs.drop j).take 1 = [xs[j]] := by
        rw [List.drop_eq_getElem_cons (by omega), List.take_succ_cons, List.take_zero]
      rw [e1] at hy2
      obtain ⟨k, hk, hk2⟩ := u8_of hy2
      refine ⟨UInt8.ofNat k, ?_⟩
      rw [List.getElem?_eq_getElem (by omega), hk, UInt8.toNat_ofNat_of_lt' (show k < 256 by omega)]
  obtain ⟨l, hl, hp⟩ := choose_list n each
  have hxs : xs = u8s l := by
    have hln := hr.2.2.1.1
    rw [Nat.mul_one] at hln
    apply List.ext_getElem?
    intro j
    unfold u8s
    rw [List.getElem?_map]
    rcases Nat.lt_or_ge j l.length with hj | hj
    · rw [List.getElem?_eq_getElem hj, hp j _ (List.getElem?_eq_getElem hj)]
      rfl
    · rw [List.getElem?_eq_none hj, List.getElem?_eq_none (by omega)]
      rfl
  obtain ⟨h1, h2, h3, h4⟩ := hr
  rw [Nat.mul_one, hxs] at h3
  refine ⟨A, n, c, l, he, h3, h1, h2, fun ad had => ?_⟩
  subst had
  cases he
  exact slice_lt Tryz.underlying34 hv
end
end Go.Proofs.YtbafnlccpbonmaaGreatDoor
