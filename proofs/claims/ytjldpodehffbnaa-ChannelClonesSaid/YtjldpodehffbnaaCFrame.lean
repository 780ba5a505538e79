/- How an item that comes in is read. -/
import Derived.Test.YtjldpodehffbnaaRows
import Derived.Test.YtjldpodehffbnaaCLaw1
import Derived.ProofKit
import Derived.OpenShut
import Derived.Deep.DeepHandedRow
import Derived.SizedLaws
import Derived.Lib.SmallJoins
namespace Go.Proofs.Ytjldpodehffbnaa
set_option linter.unusedVariables false
set_option linter.unnecessarySimpa false
set_option linter.unusedSimpArgs false
open Go.ChangeShapes Go.WideShapes Go.ChangeAt Go.RowKit Go.Joins

theorem Try.own : ownKnob Try.prog.godebug = none := by kernel_rfl
theorem Try.laidOut : laidOutB Try.prog = true := by kernel_rfl
theorem Try.cells3 : Try.prog.cellsOf 3 = 1 := by kernel_rfl
theorem Try.cells9 : Try.prog.cellsOf 9 = 1 := by kernel_rfl
theorem Try.cells4 : Try.prog.cellsOf 4 = 1 := by kernel_rfl
theorem Try.cells22 : Try.prog.cellsOf 22 = 1 := by kernel_rfl
theorem Try.cells25 : Try.prog.cellsOf 25 = 1 := by kernel_rfl
theorem Try.cells26 : Try.prog.cellsOf 26 = 1 := by kernel_rfl
theorem Try.cells31 : Try.prog.cellsOf 31 = 1 := by kernel_rfl
theorem Try.cells24 : Try.prog.cellsOf 24 = 2 := by kernel_rfl
theorem Try.cells28 : Try.prog.cellsOf 28 = 6 := by kernel_rfl
theorem Try.cells116 : Try.prog.cellsOf 116 = 7 := by kernel_rfl
theorem Try.cells30 : Try.prog.cellsOf 30 = 10 := by kernel_rfl
theorem Try.cells33 : Try.prog.cellsOf 33 = 11 := by kernel_rfl
theorem Try.cells91 : Try.prog.cellsOf 91 = 11 := by kernel_rfl
theorem Try.bytesInt : Try.prog.bytesOf 3 = 8 := by kernel_rfl
theorem Try.bytesV : Try.prog.bytesOf 28 = 88 := by kernel_rfl
theorem Try.bytesF : Try.prog.bytesOf 116 = 104 := by kernel_rfl
theorem Try.bytesQ : Try.prog.bytesOf 91 = 152 := by kernel_rfl

theorem mapM_get {α β : Type} {f : α → Option β} : ∀ {l : List α} {ys : List β}, l.mapM f = some ys → ys.length = l.length ∧ ∀ (i : Nat) (y : β), ys[i]? = some y → ∃ x, l[i]? = some x ∧ f x = some y
  | [], ys, h => by
    simp at h
    subst h
    exact ⟨rfl, fun i y hy => by simp at hy⟩
  | a :: l, ys, h => by
    rw [List.mapM_cons] at h
    rcases ha : f a with _ | b
    · rw [ha] at h; cases h
    · rw [ha] at h
      rcases hl : l.mapM f with _ | zs
      · rw [hl] at h; cases h
      · rw [hl] at h
        cases h
        obtain ⟨h1, h2⟩ := mapM_get hl
        refine ⟨by simp [h1], fun i y hy => ?_⟩
        rcases i with _ | i
        · simp at hy; subst hy; exact ⟨a, rfl, ha⟩
        · exact h2 i y (by simpa using hy)
theorem add_at (b off i : Nat) : Addr.add ⟨b, off, none⟩ i = ⟨b, off + i, none⟩ := by unfold Addr.add; split <;> simp_all
theorem cells_get {W : World} {a : Addr} {n : Nat} {cs : List Value} (h : W.cells? 0 a n = some cs) : cs.length = n ∧ ∀ i u, cs[i]? = some u → W.cell? (a.add i) = some u := by
  unfold World.cells? at h
  rw [if_pos (Nat.zero_le _)] at h
  obtain ⟨h1, h2⟩ := mapM_get h
  rw [List.length_range] at h1
  refine ⟨h1, fun i u hu => ?_⟩
  obtain ⟨x, hx, hf⟩ := h2 i u hu
  have hi : i < n := by have := (List.getElem?_eq_some_iff.1 hu).1; omega
  rw [List.getElem?_range hi] at hx
  cases hx
  exact hf
abbrev Any' : Nat → Prop := fun _ => True
section
variable {H : Type} {enc : TypeId × Value → H} {P : Program} {W : World}
/-- A slice that came in: its cells, and how its elements are read. -/
theorem slice_rw {t e : TypeId} {sz fuel : Nat} {c : Value} {x : DataW H × List MemPlace} (ht : P.underlying t = some (.slice e)) (hsz : P.cellsOf e = sz) (h0 : 0 < sz)
    (h : DataW.trod enc P W 0 (fun _ => true) true fuel t [c] = some x) :
    ∃ A n cp xs, c = .slice A n cp ∧ Rw Any' W sz A n cp xs ∧ ((x.1 = .nil ∧ n = 0) ∨ ∃ m elems sp, fuel = m + 1 ∧ x.1 = .slice elems sp ∧ elems.length = n ∧
      ∀ j, j < n → ∃ y, elems[j]? = some y.1 ∧ DataW.trod enc P W 0 (fun _ => true) true m e ((xs.drop (j * sz)).take sz) = some y) := by
  rcases DataW.trod_slice ht h with ⟨hc, rfl⟩ | ⟨a, len, cap, elems, rest, m, rfl, hc, rfl, _, hl, hm, hlen, hel, _, _⟩
  · cases hc
    exact ⟨none, 0, 0, [], rfl, Rw.nil _ _ _, .inl ⟨rfl, rfl⟩⟩
  · cases hc
    rw [hsz] at hel
    have each : ∀ i, i < len → ∃ cs' y, W.cells? 0 (a.add (i * sz)) sz = some cs' ∧ elems[i]? = some y ∧ DataW.trod enc P W 0 (fun _ => true) true m e cs' = some y := by
      intro i hi
      have h1 := hel i hi
      rw [List.getElem?_eq_getElem (by omega)] at h1 ⊢
      rcases hcs : W.cells? 0 (a.add (i * sz)) sz with _ | cs'
      · rw [hcs] at h1; cases h1
      · rw [hcs] at h1
        exact ⟨cs', _, rfl, rfl, h1⟩
    rcases Nat.eq_zero_or_pos len with hz | hp
    · subst hz
      refine ⟨some a, 0, cap, [], rfl, ⟨hl, hm, by rw [Nat.zero_mul]; exact Sl.nil _ _, fun h => absurd h (by omega)⟩, .inr ⟨m, elems.map (·.1), rest.map (·.1), rfl, rfl, by simpa using hlen, fun j hj => absurd hj (by omega)⟩⟩
    · obtain ⟨b, off, spot⟩ := a
      have hs : spot = none := by
        obtain ⟨cs', y, hcs, _, _⟩ := each 0 hp
        obtain ⟨k1, k2⟩ := cells_get hcs
        have := k2 0 _ (List.getElem?_eq_getElem (by omega))
        simpa [Addr.add] using World.cell?_spot this
      subst hs
      have cell : ∀ i k, i < len → k < sz → ∃ u, W.cell? ⟨b, off + i * sz + k, none⟩ = some u := by
        intro i k hi hk
        obtain ⟨cs', y, hcs, _, _⟩ := each i hi
        obtain ⟨k1, k2⟩ := cells_get hcs
        have := k2 k _ (List.getElem?_eq_getElem (by omega))
        rw [add_at, add_at] at this
        exact ⟨_, this⟩
      have hxs : ∀ i, i < len → ∀ cs', W.cells? 0 (Addr.add ⟨b, off, none⟩ (i * sz)) sz = some cs' →
          ((((List.range (len * sz)).map fun k => (W.cell? ⟨b, off + k, none⟩).getD undef).drop (i * sz)).take sz) = cs' := by
        intro i hi cs' hcs
        obtain ⟨k1, k2⟩ := cells_get hcs
        have hb : (i + 1) * sz ≤ len * sz := Nat.mul_le_mul_right sz hi
        rw [Nat.add_mul, Nat.one_mul] at hb
        apply List.ext_getElem?
        intro k
        rw [List.getElem?_take]
        split
        · rename_i hk
          rw [List.getElem?_drop, List.getElem?_map, List.getElem?_range (by omega), List.getElem?_eq_getElem (by omega)]
          have := k2 k _ (List.getElem?_eq_getElem (by omega))
          rw [add_at, add_at, Nat.add_assoc] at this
          simp only [Option.map_some, this, Option.getD_some]
        · rw [List.getElem?_eq_none (by omega)]
      refine ⟨some ⟨b, off, none⟩, len, cap, (List.range (len * sz)).map fun k => (W.cell? ⟨b, off + k, none⟩).getD undef, rfl, ⟨hl, hm, ⟨by simp, fun _ => ⟨b, off, rfl, ?_, fun j u hu => ?_⟩⟩, fun _ _ _ => trivial⟩, .inr ⟨m, elems.map (·.1), rest.map (·.1), rfl, rfl, by simpa using hlen, fun j hj => ?_⟩⟩
      · obtain ⟨u, hu⟩ := cell 0 0 hp h0
        exact cell_lt hu
      · have hj : j < len * sz := by have := (List.getElem?_eq_some_iff.1 hu).1; simpa using this
        rw [List.getElem?_map, List.getElem?_range hj] at hu
        cases hu
        have e1 : j / sz < len := Nat.div_lt_of_lt_mul (by rw [Nat.mul_comm]; exact hj)
        obtain ⟨u, hu⟩ := cell (j / sz) (j % sz) e1 (Nat.mod_lt _ h0)
        have e2 : off + j / sz * sz + j % sz = off + j := by
          have := Nat.div_add_mod j sz
          rw [Nat.mul_comm] at this
          omega
        rw [e2] at hu
        show W.cell? ⟨b, off + j, none⟩ = some ((W.cell? ⟨b, off + j, none⟩).getD undef)
        rw [hu]
        rfl
      · obtain ⟨cs', y, hcs, hy, ht'⟩ := each j hj
        exact ⟨y, by rw [List.getElem?_map, hy]; rfl, by rw [hxs j hj cs' hcs]; exact ht'⟩
theorem all_mem {e : TypeId} : ∀ {l : List (DataW H)} {d : DataW H}, d ∈ l → ∀ n ∈ d.weights P e, n ∈ DataW.weightsAll P e l
  | [], _, h, _, _ => by cases h
  | a :: l, d, h, n, hn => by
    unfold DataW.weightsAll
    rcases List.mem_cons.1 h with rfl | h
    · exact List.mem_append.2 (.inl hn)
    · exact List.mem_append.2 (.inr (all_mem h n hn))
/-- The bytes of what came in are few. -/
def Light (P : Program) (t : TypeId) (d : DataW H) : Prop := ∀ n ∈ d.weights P t, n ≤ reachBytes
theorem Light.slice {t e : TypeId} {elems sp : List (DataW H)} (ht : P.underlying t = some (.slice e)) (h : Light P t (.slice elems sp)) : elems.length * P.bytesOf e ≤ reachBytes ∧ ∀ d ∈ elems, Light P e d := by
  have hw : (DataW.slice elems sp).weights P t = (elems.length + sp.length) * P.bytesOf e :: (DataW.weightsAll P e elems ++ DataW.weightsAll P e sp) := by
    show (match P.underlying t with | some (.slice e) => _ | _ => _) = _
    rw [ht]
  unfold Light at h
  rw [hw] at h
  refine ⟨Nat.le_trans (Nat.mul_le_mul_right _ (Nat.le_add_right _ _)) (h _ (List.mem_cons_self ..)), fun d hd n hn => h n (List.mem_cons_of_mem _ (List.mem_append.2 (.inl (all_mem hd n hn))))⟩
theorem Light.part {t : TypeId} {fs : Array Field} {parts : List (DataW H)} (ht : P.underlying t = some (.struct fs)) (h : Light P t (.agg parts)) {j : Nat} {f : Field} {d : DataW H} (hf : fs[j]? = some f) (hd : parts[j]? = some d) : Light P f.type d := by
  have hw : (DataW.agg parts).weights P t = DataW.weightsEach P (fs.toList.map (·.type)) parts := by
    show (match P.underlying t with | some (.struct fs) => _ | some (.array _ e) => _ | _ => _) = _
    rw [ht]
  intro n hn
  exact h n (by rw [hw]; exact DataW.weights_mem_each (j := j) (by simp [hf]) hd n hn)
end
section
variable {H : Type} {enc : TypeId × Value → H} {W : World}
abbrev Tr (enc : TypeId × Value → H) (W : World) (fuel : Nat) (t : TypeId) (cs : List Value) (x : DataW H × List MemPlace) : Prop := DataW.trod enc Try.prog W 0 (fun _ => true) true fuel t cs = some x
theorem reach_le : reachBytes ≤ 140737488355328 := Nat.le_of_lt (by have := reachBytes_lt; have e : (2 : Nat) ^ 47 = 140737488355328 := by decide
                                                                    omega)
theorem list2 {α : Type} {l : List α} (h : l.length = 2) : ∃ a b, l = [a, b] := by
  match l, h with
  | [a, b], _ => exact ⟨a, b, rfl⟩
theorem list4 {α : Type} {l : List α} (h : l.length = 4) : ∃ a b c d, l = [a, b, c, d] := by
  match l, h with
  | [a, b, c, d], _ => exact ⟨a, b, c, d, rfl⟩
theorem list5 {α : Type} {l : List α} (h : l.length = 5) : ∃ a b c d e, l = [a, b, c, d, e] := by
  match l, h with
  | [a, b, c, d, e], _ => exact ⟨a, b, c, d, e, rfl⟩
theorem list6 {α : Type} {l : List α} (h : l.length = 6) : ∃ a b c d e f, l = [a, b, c, d, e, f] := by
  match l, h with
  | [a, b, c, d, e, f], _ => exact ⟨a, b, c, d, e, f, rfl⟩
theorem list7 {α : Type} {l : List α} (h : l.length = 7) : ∃ a b c d e f g, l = [a, b, c, d, e, f, g] := by
  match l, h with
  | [a, b, c, d, e, f, g], _ => exact ⟨a, b, c, d, e, f, g, rfl⟩
theorem list11 {α : Type} {l : List α} (h : l.length = 11) : ∃ a b c d e f g i j k m, l = [a, b, c, d, e, f, g, i, j, k, m] := by
  match l, h with
  | [a, b, c, d, e, f, g, i, j, k, m], _ => exact ⟨a, b, c, d, e, f, g, i, j, k, m, rfl⟩
theorem int_of {fuel : Nat} {c : Value} {x : DataW H × List MemPlace} (h : Tr enc W fuel 3 [c] x) : ∃ n, c = .int .i64 n := by
  obtain ⟨n, e, _, _⟩ := DataW.trod_int Try.underlying3 h
  cases e
  exact ⟨n, rfl⟩
theorem str_of {fuel : Nat} {c : Value} {x : DataW H × List MemPlace} (h : Tr enc W fuel 9 [c] x) : ∃ s, c = .string s := by
  obtain ⟨n, e, _, _⟩ := DataW.trod_string Try.underlying9 h
  cases e
  exact ⟨n, rfl⟩
theorem path_of {fuel : Nat} {c : Value} {x : DataW H × List MemPlace} (h : Tr enc W fuel 22 [c] x) (hw : Light Try.prog 22 x.1) : ∃ A n cp p, c = .slice A n cp ∧ PathIs Any' W A n cp p := by
  obtain ⟨A, n, cp, xs, rfl, hr, hx⟩ := slice_rw Try.underlying22 Try.cells3 (by decide) h
  have hl := hr.2.2.1.1
  rw [Nat.mul_one] at hl
  rcases hx with ⟨_, rfl⟩ | ⟨m, elems, sp, _, he, hlen, hel⟩
  · obtain rfl : xs = [] := List.eq_nil_of_length_eq_zero hl
    exact ⟨A, 0, cp, [], rfl, hr, by decide⟩
  · rw [he] at hw
    have hb := (hw.slice Try.underlying22).1
    rw [hlen, Try.bytesInt] at hb
    have hxs : xs = i64s (xs.map intOf) := by
      apply List.ext_getElem?
      intro j
      rcases Nat.lt_or_ge j n with hj | hj
      · obtain ⟨y, _, hy⟩ := hel j hj
        rw [Nat.mul_one] at hy
        have e1 : (xs.drop j).take 1 = [xs[j]] := by
          rw [List.drop_eq_getElem_cons (by omega), List.take_succ_cons, List.take_zero]
        rw [e1] at hy
        obtain ⟨z, hz⟩ := int_of hy
        simp [List.getElem?_eq_getElem (show j < xs.length by omega), hz, intOf]
      · rw [List.getElem?_eq_none (by omega), List.getElem?_eq_none (by simp; omega)]
    refine ⟨A, n, cp, xs.map intOf, rfl, ?_, Nat.le_trans hb reach_le⟩
    rw [← hxs]
    exact hr
set_option maxRecDepth 20000 in
theorem tree_of : ∀ (fuel : Nat) {cs : List Value} {x : DataW H × List MemPlace}, Tr enc W fuel 28 cs x → Light Try.prog 28 x.1 → Tree Any' W fuel cs := by
  intro fuel
  induction fuel using Nat.strongRecOn with
  | ind fuel IH =>
    intro cs x h hw
    obtain ⟨xs, k, rfl, rfl, hl, hlen, hf⟩ := DataW.trod_struct Try.underlying28 h
    rw [Try.cells28] at hl
    obtain ⟨c0, c1, c2, c3, c4, c5, rfl⟩ := list6 hl
    obtain ⟨y0, y1, y2, y3, y4, y5, rfl⟩ := list6 (show xs.length = 6 from hlen)
    have g0 : Tr enc W k 3 ((([c0, c1, c2, c3, c4, c5] : List Value).drop 0).take (Try.prog.cellsOf 3)) y0 := hf 0 _ rfl
    have g1 : Tr enc W k 3 ((([c0, c1, c2, c3, c4, c5] : List Value).drop 1).take (Try.prog.cellsOf 3)) y1 := hf 1 _ rfl
    have g2 : Tr enc W k 3 ((([c0, c1, c2, c3, c4, c5] : List Value).drop 2).take (Try.prog.cellsOf 3)) y2 := hf 2 _ rfl
    have g3 : Tr enc W k 9 ((([c0, c1, c2, c3, c4, c5] : List Value).drop 3).take (Try.prog.cellsOf 9)) y3 := hf 3 _ rfl
    have g4 : Tr enc W k 25 ((([c0, c1, c2, c3, c4, c5] : List Value).drop 4).take (Try.prog.cellsOf 25)) y4 := hf 4 _ rfl
    have g5 : Tr enc W k 26 ((([c0, c1, c2, c3, c4, c5] : List Value).drop 5).take (Try.prog.cellsOf 26)) y5 := hf 5 _ rfl
    rw [Try.cells3] at g0 g1 g2
    rw [Try.cells9] at g3
    rw [Try.cells25] at g4
    rw [Try.cells26] at g5
    obtain ⟨z0, rfl⟩ := int_of g0
    obtain ⟨z1, rfl⟩ := int_of g1
    obtain ⟨z2, rfl⟩ := int_of g2
    obtain ⟨z3, rfl⟩ := str_of g3
    obtain ⟨A, n, c, us, rfl, hr, hx⟩ := slice_rw Try.underlying25 Try.cells28 (by decide) g4
    obtain ⟨B, m, e, vs, rfl, hs, hy⟩ := slice_rw Try.underlying26 Try.cells116 (by decide) g5
    have w4 : Light Try.prog 25 y4.1 := hw.part Try.underlying28 (j := 4) rfl rfl
    have w5 : Light Try.prog 26 y5.1 := hw.part Try.underlying28 (j := 5) rfl rfl
    refine ⟨z0, z1, z2, z3, A, n, c, B, m, e, us, vs, rfl, ?_, ?_, hr, hs, ?_, ?_⟩
    · rcases hx with ⟨_, rfl⟩ | ⟨q, elems, sp, _, he, hle, hel⟩
      · decide
      · rw [he] at w4
        have hb := (w4.slice Try.underlying25).1
        rw [hle, Try.bytesV] at hb
        exact Nat.le_trans hb reach_le
    · rcases hy with ⟨_, rfl⟩ | ⟨q, elems, sp, _, he, hle, hel⟩
      · decide
      · rw [he] at w5
        have hb := (w5.slice Try.underlying26).1
        rw [hle, Try.bytesF] at hb
        exact Nat.le_trans hb reach_le
    · intro j hj
      rcases hx with ⟨_, rfl⟩ | ⟨q, elems, sp, hq, he, hle, hel⟩
      · omega
      · obtain ⟨y, hy1, hy2⟩ := hel j hj
        rw [he] at w4
        exact (IH q (by omega) hy2 ((w4.slice Try.underlying25).2 _ (List.mem_of_getElem? hy1))).le (by omega)
    · intro j hj
      rcases hy with ⟨_, rfl⟩ | ⟨q, elems, sp, hq, he, hle, hel⟩
      · omega
      · obtain ⟨y, hy1, hy2⟩ := hel j hj
        rw [he] at w5
        have wy : Light Try.prog 116 y.1 := (w5.slice Try.underlying26).2 _ (List.mem_of_getElem? hy1)
        obtain ⟨ys, k', hk', rfl, hl', hlen', hf'⟩ := DataW.trod_struct Try.underlying116 hy2
        rw [Try.cells116] at hl'
        obtain ⟨d0, d1, d2, d3, d4, d5, d6, hd⟩ := list7 hl'
        rw [hd] at hf' ⊢
        match ys, hlen' with
        | [p0, p1], _ =>
          have q0 : Tr enc W k' 9 ((([d0, d1, d2, d3, d4, d5, d6] : List Value).drop 0).take (Try.prog.cellsOf 9)) p0 := hf' 0 _ rfl
          have q1 : Tr enc W k' 28 ((([d0, d1, d2, d3, d4, d5, d6] : List Value).drop 1).take (Try.prog.cellsOf 28)) p1 := hf' 1 _ rfl
          rw [Try.cells9] at q0
          rw [Try.cells28] at q1
          obtain ⟨u, rfl⟩ := str_of q0
          exact ⟨u, [d1, d2, d3, d4, d5, d6], rfl, (IH k' (by omega) q1 (wy.part Try.underlying116 (j := 1) rfl rfl)).le (by omega)⟩
theorem stamp_of {fuel : Nat} {a b : Value} {x : DataW H × List MemPlace} (h : Tr enc W fuel 24 [a, b] x) (hw : Light Try.prog 24 x.1) : ∃ e A n c p, a = .int .i64 e ∧ b = .slice A n c ∧ PathIs Any' W A n c p := by
  obtain ⟨xs, k, rfl, rfl, hl, hlen, hf⟩ := DataW.trod_struct Try.underlying24 h
  obtain ⟨y0, y1, rfl⟩ := list2 (show xs.length = 2 from hlen)
  · skip
    have g0 : Tr enc W k 3 ((([a, b] : List Value).drop 0).take (Try.prog.cellsOf 3)) y0 := hf 0 _ rfl
    rw [Try.cells3] at g0
    have g1 : Tr enc W k 22 ((([a, b] : List Value).drop 1).take (Try.prog.cellsOf 22)) y1 := hf 1 _ rfl
    rw [Try.cells22] at g1
    obtain ⟨e, rfl⟩ := int_of g0
    obtain ⟨A, n, c, p, rfl, hp⟩ := path_of g1 (hw.part Try.underlying24 (j := 1) rfl rfl)
    exact ⟨e, A, n, c, p, rfl, rfl, hp⟩
theorem bool_of {fuel : Nat} {c : Value} {x : DataW H × List MemPlace} (h : Tr enc W fuel 4 [c] x) : ∃ n, c = .bool n := by
  obtain ⟨n, e, _⟩ := DataW.trod_bool Try.underlying4 h
  cases e
  exact ⟨n, rfl⟩
set_option maxRecDepth 20000 in
theorem req_of {fuel : Nat} {cs : List Value} {x : DataW H × List MemPlace} (h : Tr enc W fuel 91 cs x) (hw : Light Try.prog 91 x.1) : ∃ e p, ReqV Any' W cs e p := by
  obtain ⟨xs, k, rfl, rfl, hl, hlen, hf⟩ := DataW.trod_struct Try.underlying91 h
  rw [Try.cells91] at hl
  obtain ⟨a, b, c, d, e, f, g, i, j, q, m, rfl⟩ := list11 hl
  obtain ⟨y0, y1, y2, y3, y4, rfl⟩ := list5 (show xs.length = 5 from hlen)
  · skip
    have g0 : Tr enc W k 24 ((([a, b, c, d, e, f, g, i, j, q, m] : List Value).drop 0).take (Try.prog.cellsOf 24)) y0 := hf 0 _ rfl
    rw [Try.cells24] at g0
    have g1 : Tr enc W k 9 ((([a, b, c, d, e, f, g, i, j, q, m] : List Value).drop 2).take (Try.prog.cellsOf 9)) y1 := hf 1 _ rfl
    rw [Try.cells9] at g1
    have g2 : Tr enc W k 3 ((([a, b, c, d, e, f, g, i, j, q, m] : List Value).drop 3).take (Try.prog.cellsOf 3)) y2 := hf 2 _ rfl
    rw [Try.cells3] at g2
    have g3 : Tr enc W k 4 ((([a, b, c, d, e, f, g, i, j, q, m] : List Value).drop 4).take (Try.prog.cellsOf 4)) y3 := hf 3 _ rfl
    rw [Try.cells4] at g3
    have g4 : Tr enc W k 28 ((([a, b, c, d, e, f, g, i, j, q, m] : List Value).drop 5).take (Try.prog.cellsOf 28)) y4 := hf 4 _ rfl
    rw [Try.cells28] at g4
    obtain ⟨e0, A, n, cc, p, rfl, rfl, hp⟩ := stamp_of g0 (hw.part Try.underlying91 (j := 0) rfl rfl)
    obtain ⟨sv, rfl⟩ := str_of g1
    obtain ⟨cl, rfl⟩ := int_of g2
    obtain ⟨ud, rfl⟩ := bool_of g3
    exact ⟨e0, p, A, n, cc, sv, cl, ud, [f, g, i, j, q, m], k, rfl, hp, tree_of k g4 (hw.part Try.underlying91 (j := 4) rfl rfl)⟩
set_option maxRecDepth 200000 in
theorem item_of {fuel : Nat} {cs : List Value} {x : DataW H × List MemPlace} (h : Tr enc W fuel 33 cs x) (hw : Light Try.prog 33 x.1) : ∃ it, ItemV Any' W cs it := by
  obtain ⟨xs, k, rfl, rfl, hl, hlen, hf⟩ := DataW.trod_struct Try.underlying33 h
  rw [Try.cells33] at hl
  obtain ⟨a, b, c, d, e, f, g, i, j, q, m, rfl⟩ := list11 hl
  obtain ⟨y0, y1, rfl⟩ := list2 (show xs.length = 2 from hlen)
  · skip
    have g0 : Tr enc W k 30 ((([a, b, c, d, e, f, g, i, j, q, m] : List Value).drop 0).take (Try.prog.cellsOf 30)) y0 := hf 0 _ rfl
    rw [Try.cells30] at g0
    have g1 : Tr enc W k 31 ((([a, b, c, d, e, f, g, i, j, q, m] : List Value).drop 10).take (Try.prog.cellsOf 31)) y1 := hf 1 _ rfl
    rw [Try.cells31] at g1
    have w0 : Light Try.prog 30 y0.1 := hw.part Try.underlying33 (j := 0) rfl rfl
    have w1 : Light Try.prog 31 y1.1 := hw.part Try.underlying33 (j := 1) rfl rfl
    obtain ⟨ms, k2, hk2, hy0, _, hmlen, hmf⟩ := DataW.trod_struct Try.underlying30 g0
    rw [hy0] at w0
    obtain ⟨u0, u1, u2, u3, rfl⟩ := list4 (show ms.length = 4 from hmlen)
    · skip
      have r0 : Tr enc W k2 24 ((([a, b, c, d, e, f, g, i, j, q] : List Value).drop 0).take (Try.prog.cellsOf 24)) u0 := hmf 0 _ rfl
      rw [Try.cells24] at r0
      have r1 : Tr enc W k2 3 ((([a, b, c, d, e, f, g, i, j, q] : List Value).drop 2).take (Try.prog.cellsOf 3)) u1 := hmf 1 _ rfl
      rw [Try.cells3] at r1
      have r2 : Tr enc W k2 22 ((([a, b, c, d, e, f, g, i, j, q] : List Value).drop 3).take (Try.prog.cellsOf 22)) u2 := hmf 2 _ rfl
      rw [Try.cells22] at r2
      have r3 : Tr enc W k2 28 ((([a, b, c, d, e, f, g, i, j, q] : List Value).drop 4).take (Try.prog.cellsOf 28)) u3 := hmf 3 _ rfl
      rw [Try.cells28] at r3
      obtain ⟨me, A, n, cc, mp, rfl, rfl, hmp⟩ := stamp_of r0 (w0.part Try.underlying30 (j := 0) rfl rfl)
      obtain ⟨mass, rfl⟩ := int_of r1
      obtain ⟨O, l, lc, os, rfl, hos⟩ := path_of r2 (w0.part Try.underlying30 (j := 2) rfl rfl)
      have hT := tree_of k2 r3 (w0.part Try.underlying30 (j := 3) rfl rfl)
      obtain ⟨k', i', s', t', BA, bn, bc, BB, bm, bd, hb⟩ := tree_shape hT
      cases hb
      obtain ⟨R, r, qq, rs, rfl, hr, hx⟩ := slice_rw Try.underlying31 Try.cells91 (by decide) g1
      have hq : ∀ j, j < r → ∃ e p, ReqV Any' W ((rs.drop (j * 11)).take 11) e p := by
        intro j hj
        rcases hx with ⟨_, rfl⟩ | ⟨m, elems, sp, _, he, hle, hel⟩
        · omega
        · obtain ⟨y, hy1, hy2⟩ := hel j hj
          rw [he] at w1
          exact req_of hy2 ((w1.slice Try.underlying31).2 _ (List.mem_of_getElem? hy1))
      have hr152 : r * 152 ≤ 140737488355328 := by
        rcases hx with ⟨_, rfl⟩ | ⟨m, elems, sp, _, he, hle, hel⟩
        · decide
        · rw [he] at w1
          have hb := (w1.slice Try.underlying31).1
          rw [hle, Try.bytesQ] at hb
          exact Nat.le_trans hb reach_le
      rcases Nat.eq_zero_or_pos r with h0 | h0
      · exact ⟨⟨me, mp, r, mass⟩, me, A, n, cc, mp, O, l, lc, os, k', i', s', t', BA, bn, bc, BB, bm, bd, R, qq, rs, k2, rfl, hmp, hos, hT, hr152, hr, fun j hj => absurd hj (by show ¬ j < r; omega), fun _ => ⟨rfl, rfl⟩⟩
      · obtain ⟨e0, p0, hq0⟩ := hq 0 h0
        refine ⟨⟨e0, p0, r, mass⟩, me, A, n, cc, mp, O, l, lc, os, k', i', s', t', BA, bn, bc, BB, bm, bd, R, qq, rs, k2, rfl, hmp, hos, hT, hr152, hr, fun j hj => ?_, fun h => absurd h (by show ¬ r = 0; omega)⟩
        rcases j with _ | j
        · exact ⟨e0, p0, hq0, fun _ => ⟨rfl, rfl⟩⟩
        · obtain ⟨e, p, h⟩ := hq (j + 1) hj
          exact ⟨e, p, h, fun h => absurd h (by omega)⟩
set_option maxRecDepth 200000 in
/-- An item that came in. -/
theorem open_item {v : Value} {d : DataW H} {p : List MemPlace} {base : Nat} (hv : Value.okWide Try.prog W .any base 33 v) (h : DataW.Trod enc Try.prog W 0 (fun _ => true) true 33 v d p) (hw : Light Try.prog 33 d) :
    ∃ cs it, v = .agg cs.toArray ∧ ItemV Any' W cs it := by
  simp only [Value.okWide, Try.underlying33] at hv
  obtain ⟨cs, rfl, hsz, _⟩ := hv
  obtain ⟨fuel, hf⟩ := h
  obtain ⟨it, hit⟩ := item_of hf hw
  exact ⟨cs.toList, it, rfl, hit⟩
end
end Go.Proofs.Ytjldpodehffbnaa
