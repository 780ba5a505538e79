/- How a list of tokens that comes in is read. -/
import Derived.Test.YtmchiibbodllaaaDoorSlRL
import Derived.Test.YtmchiibbodllaaaDoorTk
namespace Go.Proofs.YtmchiibbodllaaaDoor
set_option linter.unusedVariables false
set_option linter.unnecessarySimpa false
set_option linter.unusedSimpArgs false
open Go.ChangeShapes Go.WideShapes Go.ChangeAt Go.RowKit Go.Joins

theorem Tryd.laidOutT : laidOutB Tryd.prog = true := by kernel_rfl
theorem Tryd.cellsTok : Tryd.prog.cellsOf 31 = 8 := by kernel_rfl
theorem Tryd.cellsIntT : Tryd.prog.cellsOf 3 = 1 := by kernel_rfl
theorem Tryd.cellsStrT : Tryd.prog.cellsOf 9 = 1 := by kernel_rfl
theorem Tryd.cellsBoolT : Tryd.prog.cellsOf 4 = 1 := by kernel_rfl
theorem Tryd.cellsNumT : Tryd.prog.cellsOf 29 = 2 := by kernel_rfl
theorem list8 {α : Type} {l : List α} (h : l.length = 8) : ∃ a b c d e f g i, l = [a, b, c, d, e, f, g, i] := by
  match l, h with
  | [a, b, c, d, e, f, g, i], _ => exact ⟨a, b, c, d, e, f, g, i, rfl⟩
section
variable {H : Type} {enc : TypeId × Value → H} {W : World}
theorem int_ofT {fuel : Nat} {c : Value} {x : DataW H × List MemPlace} (h : Tr enc W fuel 3 [c] x) : ∃ n : Int, c = .int .i64 n := by
  obtain ⟨z, hz, _, wz⟩ := DataW.trod_int Tryd.underlying3 h
  exact ⟨z, by simpa using hz⟩
theorem str_ofT {fuel : Nat} {c : Value} {x : DataW H × List MemPlace} (h : Tr enc W fuel 9 [c] x) : ∃ l : List UInt8, c = .string (B l) := by
  obtain ⟨n, e, _, hs⟩ := DataW.trod_string Tryd.underlying9 h
  cases e
  exact ⟨n.data.toList, by rw [← B_of rfl]⟩
theorem bool_ofT {fuel : Nat} {c : Value} {x : DataW H × List MemPlace} (h : Tr enc W fuel 4 [c] x) : ∃ v : Bool, c = .bool v := by
  obtain ⟨z, hz, _⟩ := DataW.trod_bool Tryd.underlying4 h
  exact ⟨z, by simpa using hz⟩
set_option maxRecDepth 200000 in
theorem num_ofT {fuel : Nat} {c d : Value} {x : DataW H × List MemPlace} (h : Tr enc W fuel 29 [c, d] x) : ∃ n s : Int, c = .int .i64 n ∧ d = .int .i64 s := by
  obtain ⟨ys, k', hk', rfl, hl', hlen', hf'⟩ := DataW.trod_struct Tryd.underlying29 h
  obtain ⟨y0, y1, rfl⟩ := list2 (show ys.length = 2 from hlen')
  have g0 : Tr enc W k' 3 ((([c, d] : List Value).drop 0).take (Tryd.prog.cellsOf 3)) y0 := hf' 0 _ rfl
  have g1 : Tr enc W k' 3 ((([c, d] : List Value).drop 1).take (Tryd.prog.cellsOf 3)) y1 := hf' 1 _ rfl
  rw [Tryd.cellsIntT] at g0 g1
  obtain ⟨n, rfl⟩ := int_ofT g0
  obtain ⟨s, rfl⟩ := int_ofT g1
  exact ⟨n, s, rfl, rfl⟩
theorem list7y {α : Type} {l : List α} (h : l.length = 7) : ∃ a b c d e f g, l = [a, b, c, d, e, f, g] := by
  match l, h with
  | [a, b, c, d, e, f, g], _ => exact ⟨a, b, c, d, e, f, g, rfl⟩
set_option maxRecDepth 200000 in
theorem tok_of {fuel : Nat} {cs : List Value} {x : DataW H × List MemPlace} (h : Tr enc W fuel 31 cs x) : ∃ t : Tn, cs = tnC t := by
  obtain ⟨ys, k', hk', rfl, hl', hlen', hf'⟩ := DataW.trod_struct Tryd.underlying31 h
  rw [Tryd.cellsTok] at hl'
  obtain ⟨a, b, c, d, e, f, g, i, rfl⟩ := list8 hl'
  obtain ⟨y0, y1, y2, y3, y4, y5, y6, rfl⟩ := list7y (show ys.length = 7 from hlen')
  have g0 : Tr enc W k' 3 ((([a, b, c, d, e, f, g, i] : List Value).drop 0).take (Tryd.prog.cellsOf 3)) y0 := hf' 0 _ rfl
  have g1 : Tr enc W k' 3 ((([a, b, c, d, e, f, g, i] : List Value).drop 1).take (Tryd.prog.cellsOf 3)) y1 := hf' 1 _ rfl
  have g2 : Tr enc W k' 3 ((([a, b, c, d, e, f, g, i] : List Value).drop 2).take (Tryd.prog.cellsOf 3)) y2 := hf' 2 _ rfl
  have g3 : Tr enc W k' 9 ((([a, b, c, d, e, f, g, i] : List Value).drop 3).take (Tryd.prog.cellsOf 9)) y3 := hf' 3 _ rfl
  have g4 : Tr enc W k' 9 ((([a, b, c, d, e, f, g, i] : List Value).drop 4).take (Tryd.prog.cellsOf 9)) y4 := hf' 4 _ rfl
  have g5 : Tr enc W k' 29 ((([a, b, c, d, e, f, g, i] : List Value).drop 5).take (Tryd.prog.cellsOf 29)) y5 := hf' 5 _ rfl
  have g6 : Tr enc W k' 4 ((([a, b, c, d, e, f, g, i] : List Value).drop 7).take (Tryd.prog.cellsOf 4)) y6 := hf' 6 _ rfl
  rw [Tryd.cellsIntT] at g0 g1 g2
  rw [Tryd.cellsStrT] at g3 g4
  rw [Tryd.cellsNumT] at g5
  rw [Tryd.cellsBoolT] at g6
  obtain ⟨n0, rfl⟩ := int_ofT g0
  obtain ⟨n1, rfl⟩ := int_ofT g1
  obtain ⟨n2, rfl⟩ := int_ofT g2
  obtain ⟨l3, rfl⟩ := str_ofT g3
  obtain ⟨l4, rfl⟩ := str_ofT g4
  obtain ⟨n5, n6, rfl, rfl⟩ := num_ofT g5
  obtain ⟨v6, rfl⟩ := bool_ofT g6
  exact ⟨⟨n0, n1, n2, l3, l4, n5, n6, v6⟩, rfl⟩
theorem rwT_chunks : ∀ (xs : List Value) (l : List Tn), xs.length = l.length * 8 → (∀ j t, l[j]? = some t → (xs.drop (j * 8)).take 8 = tnC t) → xs = rwT l
  | xs, [], h, _ => List.eq_nil_of_length_eq_zero (by simpa using h)
  | xs, t :: l, h, hc => by
    have h0 := hc 0 t rfl
    rw [Nat.zero_mul, List.drop_zero] at h0
    have ih := rwT_chunks (xs.drop 8) l (by rw [List.length_drop, h, List.length_cons]; omega) (fun j u hj => by
      have := hc (j + 1) u (by simpa using hj)
      rw [List.drop_drop, show 8 + j * 8 = (j + 1) * 8 by omega]
      exact this)
    unfold rwT at ih ⊢
    rw [List.flatMap_cons, ← h0, ← ih, List.take_append_drop]
set_option maxRecDepth 200000 in
theorem open_tokens {v : Value} {d : DataW H} {p : List MemPlace} {base : Nat} (hv : Value.okWide Tryd.prog W .any base 23 v)
    (h : DataW.Trod enc Tryd.prog W 0 (fun _ => true) true 23 v d p) : ∃ A n c l, v = .slice A n c ∧ TksW W A n c l := by
  obtain ⟨a0, len, cap, rfl⟩ := okWide_slice Tryd.underlying23 hv
  obtain ⟨fuel, hf⟩ := h
  obtain ⟨A, n, c, xs, he, hr, hx⟩ := slice_rw Tryd.underlying23 Tryd.cellsTok (by decide) hf
  have each : ∀ j, j < n → ∃ o : Tn, (xs.drop (j * 8)).take 8 = tnC o := by
    intro j hj
    rcases hx with ⟨_, rfl⟩ | ⟨m, elems, sp, _, hd, _, hel⟩
    · omega
    · obtain ⟨y, hy1, hy2⟩ := hel j hj
      exact tok_of hy2
  obtain ⟨l, hl, hp⟩ := choose_list n each
  obtain ⟨h1, h2, h3, h4⟩ := hr
  have hxs : xs = rwT l := rwT_chunks xs l (by rw [h3.1, hl]) hp
  rw [hxs] at h3
  exact ⟨A, n, c, l, he, hl, h1, h2, h3⟩
end
theorem TksW.take {w : World} {A : Option Addr} {n c : Nat} {ts : List Tn} (h : TksW w A n c ts) {k : Nat} (hk : k ≤ n) : TksW w A k c (ts.take k) := by
  obtain ⟨h1, h2, h3, h4⟩ := h
  have e : (rwT ts).take (k * 8) = rwT (ts.take k) := by
    have h5 : rwT ts = rwT (ts.take k) ++ rwT (ts.drop k) := by rw [← rwT_app, List.take_append_drop]
    rw [h5, List.take_left' (by rw [rwT_len, List.length_take]; omega)]
  exact ⟨by rw [List.length_take]; omega, by omega, h3, by rw [← e]; exact h4.take (by omega)⟩
end Go.Proofs.YtmchiibbodllaaaDoor
