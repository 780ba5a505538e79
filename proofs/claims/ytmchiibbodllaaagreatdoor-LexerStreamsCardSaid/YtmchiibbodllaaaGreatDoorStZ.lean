/- LexerStreams: how calls come in, the law. -/
import Derived.Test.YtmchiibbodllaaaGreatDoorRows
import Derived.Test.YtmchiibbodllaaaGreatDoorData
import Derived.Test.YtmchiibbodllaaaGreatDoorLFrame
import Derived.Test.YtmchiibbodllaaaGreatDoorTk
import Derived.Test.YtmchiibbodllaaaGreatDoorStA
import Derived.Test.YtmchiibbodllaaaGreatDoorLKnown
import Derived.Test.YtmchiibbodllaaaGreatDoorOrdD
namespace Go.Proofs.YtmchiibbodllaaaGreatDoor
set_option linter.unusedVariables false
set_option linter.unnecessarySimpa false
set_option linter.unusedSimpArgs false
open Go.ChangeShapes Go.WideShapes Go.ChangeAt Go.RowKit Go.Joins

theorem mapM_get {α β : Type} {f : α → Option β} : ∀ {l : List α} {ys : List β}, l.mapM f = some ys → ys.length = l.length ∧ ∀ (i : Nat) (y : β), ys[i]? = some y → ∃ x, l[i]? = some x ∧ f x = some y
  | [], ys, h => by
    simp at h
    subst h
    exact ⟨rfl, fun i y hy => by simp at hy⟩
  | a :: l, ys, h => by
    rw [List.mapM_cons] at h
    rcases ha : f a with _ | b
    · rw [ha] at h; cases h
    · rw [ha] at h
      rcases hl : l.mapM f with _ | zs
      · rw [hl] at h; cases h
      · rw [hl] at h
        cases h
        obtain ⟨h1, h2⟩ := mapM_get hl
        refine ⟨by simp [h1], fun i y hy => ?_⟩
        rcases i with _ | i
        · simp at hy; subst hy; exact ⟨a, rfl, ha⟩
        · exact h2 i y (by simpa using hy)
theorem add_at (b off i : Nat) : Addr.add ⟨b, off, none⟩ i = ⟨b, off + i, none⟩ := by unfold Addr.add; split <;> simp_all
theorem cells_get {W : World} {a : Addr} {n : Nat} {cs : List Value} (h : W.cells? 0 a n = some cs) : cs.length = n ∧ ∀ i u, cs[i]? = some u → W.cell? (a.add i) = some u := by
  unfold World.cells? at h
  rw [if_pos (Nat.zero_le _)] at h
  obtain ⟨h1, h2⟩ := mapM_get h
  rw [List.length_range] at h1
  refine ⟨h1, fun i u hu => ?_⟩
  obtain ⟨x, hx, hf⟩ := h2 i u hu
  have hi : i < n := by have := (List.getElem?_eq_some_iff.1 hu).1; omega
  rw [List.getElem?_range hi] at hx
  cases hx
  exact hf
abbrev Any' : Nat → Prop := fun _ => True
section
variable {H : Type} {enc : TypeId × Value → H} {P : Program} {W : World}
/-- A slice that came in: its cells, and how its elements are read. -/
theorem slice_rw {t e : TypeId} {sz fuel : Nat} {c : Value} {x : DataW H × List MemPlace} (ht : P.underlying t = some (.slice e)) (hsz : P.cellsOf e = sz) (h0 : 0 < sz)
    (h : DataW.trod enc P W 0 (fun _ => true) true fuel t [c] = some x) :
    ∃ A n cp xs, c = .slice A n cp ∧ Rw Any' W sz A n cp xs ∧ ((x.1 = .nil ∧ n = 0) ∨ ∃ m elems sp, fuel = m + 1 ∧ x.1 = .slice elems sp ∧ elems.length = n ∧
      ∀ j, j < n → ∃ y, elems[j]? = some y.1 ∧ DataW.trod enc P W 0 (fun _ => true) true m e ((xs.drop (j * sz)).take sz) = some y) := by
  rcases DataW.trod_slice ht h with ⟨hc, rfl⟩ | ⟨a, len, cap, elems, rest, m, rfl, hc, rfl, _, hl, hm, hlen, hel, _, _⟩
  · cases hc
    exact ⟨none, 0, 0, [], rfl, Rw.nil _ _ _, .inl ⟨rfl, rfl⟩⟩
  · cases hc
    rw [hsz] at hel
    have each : ∀ i, i < len → ∃ cs' y, W.cells? 0 (a.add (i * sz)) sz = some cs' ∧ elems[i]? = some y ∧ DataW.trod enc P W 0 (fun _ => true) true m e cs' = some y := by
      intro i hi
      have h1 := hel i hi
      rw [List.getElem?_eq_getElem (by omega)] at h1 ⊢
      rcases hcs : W.cells? 0 (a.add (i * sz)) sz with _ | cs'
      · rw [hcs] at h1; cases h1
      · rw [hcs] at h1
        exact ⟨cs', _, rfl, rfl, h1⟩
    rcases Nat.eq_zero_or_pos len with hz | hp
    · subst hz
      refine ⟨some a, 0, cap, [], rfl, ⟨hl, hm, by rw [Nat.zero_mul]; exact Sl.nil _ _, fun h => absurd h (by omega)⟩, .inr ⟨m, elems.map (·.1), rest.map (·.1), rfl, rfl, by simpa using hlen, fun j hj => absurd hj (by omega)⟩⟩
    · obtain ⟨b, off, spot⟩ := a
      have hs : spot = none := by
        obtain ⟨cs', y, hcs, _, _⟩ := each 0 hp
        obtain ⟨k1, k2⟩ := cells_get hcs
        have := k2 0 _ (List.getElem?_eq_getElem (by omega))
        simpa [Addr.add] using World.cell?_spot this
      subst hs
      have cell : ∀ i k, i < len → k < sz → ∃ u, W.cell? ⟨b, off + i * sz + k, none⟩ = some u := by
        intro i k hi hk
        obtain ⟨cs', y, hcs, _, _⟩ := each i hi
        obtain ⟨k1, k2⟩ := cells_get hcs
        have := k2 k _ (List.getElem?_eq_getElem (by omega))
        rw [add_at, add_at] at this
        exact ⟨_, this⟩
      have hxs : ∀ i, i < len → ∀ cs', W.cells? 0 (Addr.add ⟨b, off, none⟩ (i * sz)) sz = some cs' →
          ((((List.range (len * sz)).map fun k => (W.cell? ⟨b, off + k, none⟩).getD undef).drop (i * sz)).take sz) = cs' := by
        intro i hi cs' hcs
        obtain ⟨k1, k2⟩ := cells_get hcs
        have hb : (i + 1) * sz ≤ len * sz := Nat.mul_le_mul_right sz hi
        rw [Nat.add_mul, Nat.one_mul] at hb
        apply List.ext_getElem?
        intro k
        rw [List.getElem?_take]
        split
        · rename_i hk
          rw [List.getElem?_drop, List.getElem?_map, List.getElem?_range (by omega), List.getElem?_eq_getElem (by omega)]
          have := k2 k _ (List.getElem?_eq_getElem (by omega))
          rw [add_at, add_at, Nat.add_assoc] at this
          simp only [Option.map_some, this, Option.getD_some]
        · rw [List.getElem?_eq_none (by omega)]
      refine ⟨some ⟨b, off, none⟩, len, cap, (List.range (len * sz)).map fun k => (W.cell? ⟨b, off + k, none⟩).getD undef, rfl, ⟨hl, hm, ⟨by simp, fun _ => ⟨b, off, rfl, ?_, fun j u hu => ?_⟩⟩, fun _ _ _ => trivial⟩, .inr ⟨m, elems.map (·.1), rest.map (·.1), rfl, rfl, by simpa using hlen, fun j hj => ?_⟩⟩
      · obtain ⟨u, hu⟩ := cell 0 0 hp h0
        exact cell_lt hu
      · have hj : j < len * sz := by have := (List.getElem?_eq_some_iff.1 hu).1; simpa using this
        rw [List.getElem?_map, List.getElem?_range hj] at hu
        cases hu
        have e1 : j / sz < len := Nat.div_lt_of_lt_mul (by rw [Nat.mul_comm]; exact hj)
        obtain ⟨u, hu⟩ := cell (j / sz) (j % sz) e1 (Nat.mod_lt _ h0)
        have e2 : off + j / sz * sz + j % sz = off + j := by
          have := Nat.div_add_mod j sz
          rw [Nat.mul_comm] at this
          omega
        rw [e2] at hu
        show W.cell? ⟨b, off + j, none⟩ = some ((W.cell? ⟨b, off + j, none⟩).getD undef)
        rw [hu]
        rfl
      · obtain ⟨cs', y, hcs, hy, ht'⟩ := each j hj
        exact ⟨y, by rw [List.getElem?_map, hy]; rfl, by rw [hxs j hj cs' hcs]; exact ht'⟩
theorem all_mem {e : TypeId} : ∀ {l : List (DataW H)} {d : DataW H}, d ∈ l → ∀ n ∈ d.weights P e, n ∈ DataW.weightsAll P e l
  | [], _, h, _, _ => by cases h
  | a :: l, d, h, n, hn => by
    unfold DataW.weightsAll
    rcases List.mem_cons.1 h with rfl | h
    · exact List.mem_append.2 (.inl hn)
    · exact List.mem_append.2 (.inr (all_mem h n hn))
/-- The bytes of what came in are few. -/
def Light (P : Program) (t : TypeId) (d : DataW H) : Prop := ∀ n ∈ d.weights P t, n ≤ reachBytes
theorem Light.slice {t e : TypeId} {elems sp : List (DataW H)} (ht : P.underlying t = some (.slice e)) (h : Light P t (.slice elems sp)) : elems.length * P.bytesOf e ≤ reachBytes ∧ ∀ d ∈ elems, Light P e d := by
  have hw : (DataW.slice elems sp).weights P t = (elems.length + sp.length) * P.bytesOf e :: (DataW.weightsAll P e elems ++ DataW.weightsAll P e sp) := by
    show (match P.underlying t with | some (.slice e) => _ | _ => _) = _
    rw [ht]
  unfold Light at h
  rw [hw] at h
  refine ⟨Nat.le_trans (Nat.mul_le_mul_right _ (Nat.le_add_right _ _)) (h _ (List.mem_cons_self ..)), fun d hd n hn => h n (List.mem_cons_of_mem _ (List.mem_append.2 (.inl (all_mem hd n hn))))⟩
theorem Light.part {t : TypeId} {fs : Array Field} {parts : List (DataW H)} (ht : P.underlying t = some (.struct fs)) (h : Light P t (.agg parts)) {j : Nat} {f : Field} {d : DataW H} (hf : fs[j]? = some f) (hd : parts[j]? = some d) : Light P f.type d := by
  have hw : (DataW.agg parts).weights P t = DataW.weightsEach P (fs.toList.map (·.type)) parts := by
    show (match P.underlying t with | some (.struct fs) => _ | some (.array _ e) => _ | _ => _) = _
    rw [ht]
  intro n hn
  exact h n (by rw [hw]; exact DataW.weights_mem_each (j := j) (by simp [hf]) hd n hn)
end
section
variable {H : Type} {enc : TypeId × Value → H} {W : World}
abbrev Tr (enc : TypeId × Value → H) (W : World) (fuel : Nat) (t : TypeId) (cs : List Value) (x : DataW H × List MemPlace) : Prop := DataW.trod enc Tryz.prog W 0 (fun _ => true) true fuel t cs = some x
theorem reach_le : reachBytes ≤ 140737488355328 := Nat.le_of_lt (by have := reachBytes_lt; have e : (2 : Nat) ^ 47 = 140737488355328 := by decide
                                                                    omega)
theorem list2 {α : Type} {l : List α} (h : l.length = 2) : ∃ a b, l = [a, b] := by
  match l, h with
  | [a, b], _ => exact ⟨a, b, rfl⟩
theorem list4 {α : Type} {l : List α} (h : l.length = 4) : ∃ a b c d, l = [a, b, c, d] := by
  match l, h with
  | [a, b, c, d], _ => exact ⟨a, b, c, d, rfl⟩
theorem list5 {α : Type} {l : List α} (h : l.length = 5) : ∃ a b c d e, l = [a, b, c, d, e] := by
  match l, h with
  | [a, b, c, d, e], _ => exact ⟨a, b, c, d, e, rfl⟩
theorem list6 {α : Type} {l : List α} (h : l.length = 6) : ∃ a b c d e f, l = [a, b, c, d, e, f] := by
  match l, h with
  | [a, b, c, d, e, f], _ => exact ⟨a, b, c, d, e, f, rfl⟩
theorem list7 {α : Type} {l : List α} (h : l.length = 7) : ∃ a b c d e f g, l = [a, b, c, d, e, f, g] := by
  match l, h with
  | [a, b, c, d, e, f, g], _ => exact ⟨a, b, c, d, e, f, g, rfl⟩
theorem list11 {α : Type} {l : List α} (h : l.length = 11) : ∃ a b c d e f g i j k m, l = [a, b, c, d, e, f, g, i, j, k, m] := by
  match l, h with
  | [a, b, c, d, e, f, g, i, j, k, m], _ => exact ⟨a, b, c, d, e, f, g, i, j, k, m, rfl⟩
end
theorem choose_list {α : Type} {p : Nat → α → Prop} : ∀ (n : Nat), (∀ j, j < n → ∃ a, p j a) → ∃ l : List α, l.length = n ∧ ∀ j a, l[j]? = some a → p j a
  | 0, _ => ⟨[], rfl, fun j a h => by simp at h⟩
  | n + 1, h => by
    obtain ⟨l, hl, hp⟩ := choose_list n fun j hj => h j (by omega)
    obtain ⟨a, ha⟩ := h n (by omega)
    refine ⟨l ++ [a], by simp [hl], fun j x hx => ?_⟩
    rcases Nat.lt_or_ge j l.length with hj | hj
    · rw [List.getElem?_append_left hj] at hx
      exact hp j x hx
    · have hjn : j = n := by
        have := (List.getElem?_eq_some_iff.1 hx).1
        simp at this
        omega
      subst hjn
      rw [List.getElem?_append_right hj, hl, Nat.sub_self] at hx
      cases hx
      exact ha
end Go.Proofs.YtmchiibbodllaaaGreatDoor

namespace Go.Proofs.YtmchiibbodllaaaGreatDoor
set_option linter.unusedVariables false
set_option linter.unnecessarySimpa false
set_option linter.unusedSimpArgs false
open Go.ChangeShapes Go.WideShapes Go.ChangeAt Go.RowKit Go.Joins

theorem Tryz.laidOutT : laidOutB Tryz.prog = true := by kernel_rfl
theorem Tryz.cellsTok : Tryz.prog.cellsOf 33 = 8 := by kernel_rfl
theorem Tryz.cellsIntT : Tryz.prog.cellsOf 3 = 1 := by kernel_rfl
theorem Tryz.cellsStrT : Tryz.prog.cellsOf 9 = 1 := by kernel_rfl
theorem Tryz.cellsBoolT : Tryz.prog.cellsOf 4 = 1 := by kernel_rfl
theorem Tryz.cellsNumT : Tryz.prog.cellsOf 31 = 2 := by kernel_rfl
theorem list8 {α : Type} {l : List α} (h : l.length = 8) : ∃ a b c d e f g i, l = [a, b, c, d, e, f, g, i] := by
  match l, h with
  | [a, b, c, d, e, f, g, i], _ => exact ⟨a, b, c, d, e, f, g, i, rfl⟩
section
variable {H : Type} {enc : TypeId × Value → H} {W : World}
theorem int_ofT {fuel : Nat} {c : Value} {x : DataW H × List MemPlace} (h : Tr enc W fuel 3 [c] x) : ∃ n : Int, c = .int .i64 n := by
  obtain ⟨z, hz, _, wz⟩ := DataW.trod_int Tryz.underlying3 h
  exact ⟨z, by simpa using hz⟩
theorem str_ofT {fuel : Nat} {c : Value} {x : DataW H × List MemPlace} (h : Tr enc W fuel 9 [c] x) : ∃ l : List UInt8, c = .string (B l) := by
  obtain ⟨n, e, _, hs⟩ := DataW.trod_string Tryz.underlying9 h
  cases e
  exact ⟨n.data.toList, by rw [← B_of rfl]⟩
theorem bool_ofT {fuel : Nat} {c : Value} {x : DataW H × List MemPlace} (h : Tr enc W fuel 4 [c] x) : ∃ v : Bool, c = .bool v := by
  obtain ⟨z, hz, _⟩ := DataW.trod_bool Tryz.underlying4 h
  exact ⟨z, by simpa using hz⟩
set_option maxRecDepth 200000 in
theorem num_ofT {fuel : Nat} {c d : Value} {x : DataW H × List MemPlace} (h : Tr enc W fuel 31 [c, d] x) : ∃ n s : Int, c = .int .i64 n ∧ d = .int .i64 s := by
  obtain ⟨ys, k', hk', rfl, hl', hlen', hf'⟩ := DataW.trod_struct Tryz.underlying31 h
  obtain ⟨y0, y1, rfl⟩ := list2 (show ys.length = 2 from hlen')
  have g0 : Tr enc W k' 3 ((([c, d] : List Value).drop 0).take (Tryz.prog.cellsOf 3)) y0 := hf' 0 _ rfl
  have g1 : Tr enc W k' 3 ((([c, d] : List Value).drop 1).take (Tryz.prog.cellsOf 3)) y1 := hf' 1 _ rfl
  rw [Tryz.cellsIntT] at g0 g1
  obtain ⟨n, rfl⟩ := int_ofT g0
  obtain ⟨s, rfl⟩ := int_ofT g1
  exact ⟨n, s, rfl, rfl⟩
theorem list7y {α : Type} {l : List α} (h : l.length = 7) : ∃ a b c d e f g, l = [a, b, c, d, e, f, g] := by
  match l, h with
  | [a, b, c, d, e, f, g], _ => exact ⟨a, b, c, d, e, f, g, rfl⟩
set_option maxRecDepth 200000 in
theorem tok_of {fuel : Nat} {cs : List Value} {x : DataW H × List MemPlace} (h : Tr enc W fuel 33 cs x) : ∃ t : Tn, cs = tnC t := by
  obtain ⟨ys, k', hk', rfl, hl', hlen', hf'⟩ := DataW.trod_struct Tryz.underlying33 h
  rw [Tryz.cellsTok] at hl'
  obtain ⟨a, b, c, d, e, f, g, i, rfl⟩ := list8 hl'
  obtain ⟨y0, y1, y2, y3, y4, y5, y6, rfl⟩ := list7y (show ys.length = 7 from hlen')
  have g0 : Tr enc W k' 3 ((([a, b, c, d, e, f, g, i] : List Value).drop 0).take (Tryz.prog.cellsOf 3)) y0 := hf' 0 _ rfl
  have g1 : Tr enc W k' 3 ((([a, b, c, d, e, f, g, i] : List Value).drop 1).take (Tryz.prog.cellsOf 3)) y1 := hf' 1 _ rfl
  have g2 : Tr enc W k' 3 ((([a, b, c, d, e, f, g, i] : List Value).drop 2).take (Tryz.prog.cellsOf 3)) y2 := hf' 2 _ rfl
  have g3 : Tr enc W k' 9 ((([a, b, c, d, e, f, g, i] : List Value).drop 3).take (Tryz.prog.cellsOf 9)) y3 := hf' 3 _ rfl
  have g4 : Tr enc W k' 9 ((([a, b, c, d, e, f, g, i] : List Value).drop 4).take (Tryz.prog.cellsOf 9)) y4 := hf' 4 _ rfl
  have g5 : Tr enc W k' 31 ((([a, b, c, d, e, f, g, i] : List Value).drop 5).take (Tryz.prog.cellsOf 31)) y5 := hf' 5 _ rfl
  have g6 : Tr enc W k' 4 ((([a, b, c, d, e, f, g, i] : List Value).drop 7).take (Tryz.prog.cellsOf 4)) y6 := hf' 6 _ rfl
  rw [Tryz.cellsIntT] at g0 g1 g2
  rw [Tryz.cellsStrT] at g3 g4
  rw [Tryz.cellsNumT] at g5
  rw [Tryz.cellsBoolT] at g6
  obtain ⟨n0, rfl⟩ := int_ofT g0
  obtain ⟨n1, rfl⟩ := int_ofT g1
  obtain ⟨n2, rfl⟩ := int_ofT g2
  obtain ⟨l3, rfl⟩ := str_ofT g3
  obtain ⟨l4, rfl⟩ := str_ofT g4
  obtain ⟨n5, n6, rfl, rfl⟩ := num_ofT g5
  obtain ⟨v6, rfl⟩ := bool_ofT g6
  exact ⟨⟨n0, n1, n2, l3, l4, n5, n6, v6⟩, rfl⟩
theorem rwT_chunks : ∀ (xs : List Value) (l : List Tn), xs.length = l.length * 8 → (∀ j t, l[j]? = some t → (xs.drop (j * 8)).take 8 = tnC t) → xs = rwT l
  | xs, [], h, _ => List.eq_nil_of_length_eq_zero (by simpa using h)
  | xs, t :: l, h, hc => by
    have h0 := hc 0 t rfl
    rw [Nat.zero_mul, List.drop_zero] at h0
    have ih := rwT_chunks (xs.drop 8) l (by rw [List.length_drop, h, List.length_cons]; omega) (fun j u hj => by
      have := hc (j + 1) u (by simpa using hj)
      rw [List.drop_drop, show 8 + j * 8 = (j + 1) * 8 by omega]
      exact this)
    unfold rwT at ih ⊢
    rw [List.flatMap_cons, ← h0, ← ih, List.take_append_drop]
set_option maxRecDepth 200000 in
theorem open_tokens {v : Value} {d : DataW H} {p : List MemPlace} {base : Nat} (hv : Value.okWide Tryz.prog W .any base 23 v)
    (h : DataW.Trod enc Tryz.prog W 0 (fun _ => true) true 23 v d p) : ∃ A n c l, v = .slice A n c ∧ TksW W A n c l := by
  obtain ⟨a0, len, cap, rfl⟩ := okWide_slice Tryz.underlying23 hv
  obtain ⟨fuel, hf⟩ := h
  obtain ⟨A, n, c, xs, he, hr, hx⟩ := slice_rw Tryz.underlying23 Tryz.cellsTok (by decide) hf
  have each : ∀ j, j < n → ∃ o : Tn, (xs.drop (j * 8)).take 8 = tnC o := by
    intro j hj
    rcases hx with ⟨_, rfl⟩ | ⟨m, elems, sp, _, hd, _, hel⟩
    · omega
    · obtain ⟨y, hy1, hy2⟩ := hel j hj
      exact tok_of hy2
  obtain ⟨l, hl, hp⟩ := choose_list n each
  obtain ⟨h1, h2, h3, h4⟩ := hr
  have hxs : xs = rwT l := rwT_chunks xs l (by rw [h3.1, hl]) hp
  rw [hxs] at h3
  exact ⟨A, n, c, l, he, hl, h1, h2, h3⟩
end
theorem TksW.take {w : World} {A : Option Addr} {n c : Nat} {ts : List Tn} (h : TksW w A n c ts) {k : Nat} (hk : k ≤ n) : TksW w A k c (ts.take k) := by
  obtain ⟨h1, h2, h3, h4⟩ := h
  have e : (rwT ts).take (k * 8) = rwT (ts.take k) := by
    have h5 : rwT ts = rwT (ts.take k) ++ rwT (ts.drop k) := by rw [← rwT_app, List.take_append_drop]
    rw [h5, List.take_left' (by rw [rwT_len, List.length_take]; omega)]
  exact ⟨by rw [List.length_take]; omega, by omega, h3, by rw [← e]; exact h4.take (by omega)⟩
end Go.Proofs.YtmchiibbodllaaaGreatDoor

namespace Go.Proofs.YtmchiibbodllaaaGreatDoor
set_option linter.unusedVariables false
set_option linter.unnecessarySimpa false
set_option linter.unusedSimpArgs false
open Go.ChangeShapes Go.WideShapes Go.ChangeAt Go.RowKit Go.Joins

theorem Tryz.cellsAct : Tryz.prog.cellsOf 50 = 5 := by kernel_rfl
theorem rwA_chunks : ∀ (xs : List Value) (l : List Ac), xs.length = l.length * 5 → (∀ j t, l[j]? = some t → (xs.drop (j * 5)).take 5 = acC t) → xs = rwA l
  | xs, [], h, _ => List.eq_nil_of_length_eq_zero (by simpa using h)
  | xs, t :: l, h, hc => by
    have h0 := hc 0 t rfl
    rw [Nat.zero_mul, List.drop_zero] at h0
    have ih := rwA_chunks (xs.drop 5) l (by rw [List.length_drop, h, List.length_cons]; omega) (fun j u hj => by
      have := hc (j + 1) u (by simpa using hj)
      rw [List.drop_drop, show 5 + j * 5 = (j + 1) * 5 by omega]
      exact this)
    unfold rwA at ih ⊢
    rw [List.flatMap_cons, ← h0, ← ih, List.take_append_drop]
section
variable {H : Type} {enc : TypeId × Value → H} {W : World}
set_option maxRecDepth 200000 in
theorem act_of {fuel : Nat} {cs : List Value} {x : DataW H × List MemPlace} (h : Tr enc W fuel 50 cs x) : ∃ t : Ac, cs = acC t := by
  obtain ⟨ys, k', hk', rfl, hl', hlen', hf'⟩ := DataW.trod_struct Tryz.underlying50 h
  rw [Tryz.cellsAct] at hl'
  obtain ⟨a, b, c, d, e, rfl⟩ := list5 hl'
  obtain ⟨y0, y1, y2, y3, y4, rfl⟩ := list5 (show ys.length = 5 from hlen')
  have g0 : Tr enc W k' 3 ((([a, b, c, d, e] : List Value).drop 0).take (Tryz.prog.cellsOf 3)) y0 := hf' 0 _ rfl
  have g1 : Tr enc W k' 3 ((([a, b, c, d, e] : List Value).drop 1).take (Tryz.prog.cellsOf 3)) y1 := hf' 1 _ rfl
  have g2 : Tr enc W k' 3 ((([a, b, c, d, e] : List Value).drop 2).take (Tryz.prog.cellsOf 3)) y2 := hf' 2 _ rfl
  have g3 : Tr enc W k' 3 ((([a, b, c, d, e] : List Value).drop 3).take (Tryz.prog.cellsOf 3)) y3 := hf' 3 _ rfl
  have g4 : Tr enc W k' 9 ((([a, b, c, d, e] : List Value).drop 4).take (Tryz.prog.cellsOf 9)) y4 := hf' 4 _ rfl
  rw [Tryz.cellsIntT] at g0 g1 g2 g3
  rw [Tryz.cellsStrT] at g4
  obtain ⟨n0, rfl⟩ := int_ofT g0
  obtain ⟨n1, rfl⟩ := int_ofT g1
  obtain ⟨n2, rfl⟩ := int_ofT g2
  obtain ⟨n3, rfl⟩ := int_ofT g3
  obtain ⟨l4, rfl⟩ := str_ofT g4
  exact ⟨⟨n0, n1, n2, n3, l4⟩, rfl⟩
set_option maxRecDepth 200000 in
theorem open_acts {v : Value} {d : DataW H} {p : List MemPlace} {base : Nat} (hv : Value.okWide Tryz.prog W .any base 44 v)
    (h : DataW.Trod enc Tryz.prog W 0 (fun _ => true) true 44 v d p) : ∃ A n c l, v = .slice A n c ∧ ActsW W A n c l := by
  obtain ⟨a0, len, cap, rfl⟩ := okWide_slice Tryz.underlying44 hv
  obtain ⟨fuel, hf⟩ := h
  obtain ⟨A, n, c, xs, he, hr, hx⟩ := slice_rw Tryz.underlying44 Tryz.cellsAct (by decide) hf
  have each : ∀ j, j < n → ∃ o : Ac, (xs.drop (j * 5)).take 5 = acC o := by
    intro j hj
    rcases hx with ⟨_, rfl⟩ | ⟨m, elems, sp, _, hd, _, hel⟩
    · omega
    · obtain ⟨y, hy1, hy2⟩ := hel j hj
      exact act_of hy2
  obtain ⟨l, hl, hp⟩ := choose_list n each
  obtain ⟨h1, h2, h3, h4⟩ := hr
  have hxs : xs = rwA l := rwA_chunks xs l (by rw [h3.1, hl]) hp
  rw [hxs] at h3
  exact ⟨A, n, c, l, he, hl, h1, h2, h3⟩
end
end Go.Proofs.YtmchiibbodllaaaGreatDoor

namespace Go.Proofs.YtmchiibbodllaaaGreatDoor
set_option linter.unusedVariables false
set_option linter.unnecessarySimpa false
set_option linter.unusedSimpArgs false
open Go.RowKit

theorem start_two {b0 : Nat} {w1 w3 w4 wx : World} {l : List UInt8} {p q c1 c4 : Nat} {A1 A4 : Option Addr} (hB1 : Bx w1 p [.slice A1 (usOf l).length c1, .int .i64 (st0 l).ln, .int .i64 (st0 l).cl, .int .i64 (st0 l).e])
    (hT1 : TksW w1 A1 (usOf l).length c1 (usOf l)) (hA1 : ∀ ad, A1 = some ad → b0 ≤ ad.block ∧ ad.block < p) (h13 : Below w1.heap.size w1 w3) (hq : w1.heap.size ≤ q) (hq3 : q < w3.heap.size) (h34 : Below w3.heap.size w3 w4)
    (hT4 : TksW w4 A4 (usOf l).length c4 (usOf l)) (hA4 : ∀ ad, A4 = some ad → w3.heap.size ≤ ad.block ∧ ad.block < w4.heap.size) (hk : Keeps (fun x => x ≠ q) w4 wx)
    (hX : Bx wx q [.slice A4 (usOf l).length c4, .int .i64 0, .int .i64 (st0 l).ln, .int .i64 (st0 l).cl, .int .i64 (st0 l).e]) : StW wx w4.heap.size p q (usOf l) (st0 l) ∧ MsW wx w4.heap.size p q (usOf l) (st0 l) := by
  have hp1 := hB1.lt
  have s13 := h13.size
  have s34 := h34.size
  have h14 := G.trans h13 h34
  have a0 : w4.heap.size ≤ wx.heap.size ∧ p < w4.heap.size ∧ q < w4.heap.size ∧ p ≠ q := ⟨hk.1, by omega, by omega, by omega⟩
  refine ⟨⟨a0, A1, c1, ?_, ?_, ?_, st0_ok l⟩, ⟨a0, A4, c4, ?_, ?_, ?_, st0_ok l⟩⟩
  · rw [st0_i, Nat.sub_zero]
    exact (hB1.grow h14).keep hk (by omega)
  · intro ad ha
    have := hA1 ad ha
    omega
  · rw [st0_i, Nat.sub_zero, List.drop_zero]
    exact (hT1.grow h14).keep (fun ad ha => by have := hA1 ad ha; show ad.block ≠ q; omega) hk
  · rw [st0_i]
    exact hX
  · intro ad ha
    have := hA4 ad ha
    omega
  · exact hT4.keep (fun ad ha => by have := hA4 ad ha; show ad.block ≠ q; omega) hk
theorem tok_sameN (a : Tn) (w : World) : (binOp .neq 33 (tnL a.k a.ln a.cl a.tx a.v a.n a.s a.j) (tnL a.k a.ln a.cl a.tx a.v a.n a.s a.j)).run Tryz.prog w = .ok (.bool false) w := by rw [tok_neq a a w]; simp
theorem tok_sameE (a : Tn) (w : World) : (binOp .eql 33 (tnL a.k a.ln a.cl a.tx a.v a.n a.s a.j) (tnL a.k a.ln a.cl a.tx a.v a.n a.s a.j)).run Tryz.prog w = .ok (.bool true) w := by rw [tok_eql a a w]; simp
structure HasA (r : Nat) (a : Ac) (w : World) : Prop where
  a : Bx w r (acC a)
/-- Both streams, and a call of them in block r. -/
structure SS (w0 : World) (N p q r : Nat) (us : List Tn) (a : Ac) (s s2 : St) (w : World) : Prop where
  P : StW w N p q us s
  M : MsW w N p q us s2
  X : Bx w r (acC a)
  G : Below w0.heap.size w0 w
  hp : w0.heap.size ≤ p
  hq : w0.heap.size ≤ q
  hr : N ≤ r
section
variable {w0 w w' : World} {N p q r : Nat} {us : List Tn} {a : Ac} {s s' s2 : St}
theorem SS.grow (h : SS w0 N p q r us a s s2 w) (hb : Below w.heap.size w w') : SS w0 N p q r us a s s2 w' := ⟨h.P.grow hb, h.M.grow hb, h.X.grow hb, h.G.trans (hb.mono h.G.size), h.hp, h.hq, h.hr⟩
theorem SS.sp (h : SS w0 N p q r us a s s2 w) (k : NxP N p q us s' w w') : SS w0 N p q r us a s' s2 w' := by
  have h1 := h.P.1
  have h2 := h.hr
  exact ⟨k.st, h.M.chg k.ch, h.X.chg k.ch (by omega) (by omega), h.G.trans (k.ch.below h.hp h.hp h.G.size), h.hp, h.hq, h.hr⟩
theorem SS.mp (h : SS w0 N p q r us a s s2 w) (k : NxM N p q us s' w w') : SS w0 N p q r us a s s' w' := by
  have h1 := h.P.1
  have h2 := h.hr
  exact ⟨h.P.chg k.ch, k.st, h.X.chg k.ch (by omega) (by omega), h.G.trans (k.ch.below h.hq h.hq h.G.size), h.hp, h.hq, h.hr⟩
theorem SS.ha (h : SS w0 N p q r us a s s2 w) : HasA r a w := ⟨h.X⟩
end
theorem mod8 (c : Int) : ∃ u m : Int, Int.tmod c 8 = u ∧ -7 ≤ u ∧ u ≤ 7 ∧ Int.tmod (u + 8) 8 = m ∧ 0 ≤ m ∧ m < 8 := by
  have h1 := Int.lt_tmod_of_pos c (show (0 : Int) < 8 by decide)
  have h2 := Int.tmod_lt_of_pos c (show (0 : Int) < 8 by decide)
  exact ⟨Int.tmod c 8, _, rfl, by omega, by omega, rfl, Int.tmod_nonneg 8 (by omega), Int.tmod_lt_of_pos _ (by decide)⟩
section
variable {w : World}
set_option maxRecDepth 20000 in set_option maxHeartbeats 16000000 in
theorem lexerStreams_w (hE : Env w) (S : ByteArray) {A : Option Addr} {n c : Nat} {acts : List Ac} (hA : ActsW w A n c acts) : Calls Tryz.prog 6 #[.string S, .slice A n c] w fun e w' => e = .returned (.bool true) ∧ Below w.heap.size w w' := by
  obtain ⟨k, hk⟩ : ∃ k, k = min S.size 300 := ⟨_, rfl⟩
  have hc := take_cut S 300 k hk
  obtain ⟨l, hl⟩ : ∃ l, S.data.toList.take 300 = l := ⟨_, rfl⟩
  rw [hl] at hc
  have hm : min (S.size : Int) 300 = (k : Int) := by omega
  have hk1 : (0 : Int) ≤ (k : Int) := by omega
  have hk2 : (k : Int) ≤ (S.size : Int) := by omega
  have hk3 : k ≤ S.size := by omega
  obtain ⟨K, hK⟩ : ∃ K, min n 30 = K := ⟨_, rfl⟩
  have hKn : K ≤ n := by omega
  have hK30 : K ≤ 30 := by omega
  have hKK : Hid (K = n ∨ K = 30) := by unfold Hid; omega
  have hKI := Lib.hid (usOf_kinds l)
  have lA : acts.length = n := hA.1
  have HA := Lib.hid hA
  have HE := Lib.hid hE
  have NW := Lib.hid (new_any hE l)
  have TM := Lib.hid (fun (wx : World) (hE : Env wx) => tokens_m hE (B l))
  rw [B_list] at TM
  clear hE hA hK hk hl
  go_enter Tryz.func6, Tryz.ntmps6
  go_wp2_with fail
  go_at_call 26
  (with_reducible refine NW.out.mono ?_)
  rintro e1 w1 ⟨p, A1, c1, rfl, hb1, hp, hB1, hT1, hA1⟩
  have qn := ptrEq p
  have HB1 := Lib.hid hB1
  have HT1 := Lib.hid hT1
  have HA1 := Lib.hid hA1
  replace HE := Lib.hid (HE.out.grow hb1)
  have HG := Lib.hid hb1
  have hp' := Lib.hid hp
  clear NW hB1 hT1 hA1 hb1 hp
  go_wp2_with fail
  go_at_call 14
  (with_reducible refine (known_any HE.out).mono ?_)
  rintro e1 w2 ⟨rfl, hb2⟩
  have H12 := Lib.hid hb2
  replace HE := Lib.hid (HE.out.grow hb2)
  clear hb2
  go_wp2_with fail
  go_at_call 13
  obtain ⟨q, hq⟩ : ∃ q, w2.heap.size = q := ⟨_, rfl⟩
  rw [hq]
  refine calls_name (fun wx => Hid (Bx wx q [.slice none 0 0, .int .i64 0, .int .i64 0, .int .i64 0, .int .i64 0]) ∧ Hid (Below w2.heap.size w2 wx)) ⟨Lib.hid (Bx.new hq.symm rfl), Lib.hid (G.alloc (G.refl _) _)⟩ ?_
  rintro w3 ⟨hX3, hb3⟩
  replace HE := Lib.hid (HE.out.grow hb3.out)
  have H13 := Lib.hid (G.trans H12.out hb3.out)
  (with_reducible refine ((TM.out _ HE.out).mono fun e w' h => scan_two h).mono ?_)
  rintro e1 w4 ⟨hb4, A4, c4, rfl, hT4, hA4⟩
  have hX4 := Lib.hid (hX3.out.grow hb4)
  have HST := Lib.hid (fun (wx : World) (hk : Keeps (fun x => x ≠ q) w4 wx) (hX : Bx wx q [.slice A4 (usOf l).length c4, .int .i64 0, .int .i64 (st0 l).ln, .int .i64 (st0 l).cl, .int .i64 (st0 l).e]) => start_two HB1.out HT1.out HA1.out H13.out (by have := H12.out.size; omega) hX3.out.lt hb4 hT4 hA4 hk hX)
  have hqg := Lib.hid (show w.heap.size ≤ q by have := H12.out.size; have := HG.out.size; omega)
  have HG4 := Lib.hid (G.trans HG.out (G.trans H13.out hb4))
  obtain ⟨N, hN⟩ : ∃ N, w4.heap.size = N := ⟨_, rfl⟩
  rw [hN] at HST
  obtain ⟨us, hus⟩ : ∃ us, usOf l = us := ⟨_, rfl⟩
  obtain ⟨s0, hs0⟩ : ∃ s0, st0 l = s0 := ⟨_, rfl⟩
  rw [hus, hs0] at HST ⊢
  rw [hus] at hKI
  obtain ⟨z0, z1, z2, z3, z4⟩ := hX4.out.f5
  obtain ⟨y0, y1, y2, y3, y4⟩ := hX4.out.c5
  have ltq := hX4.out.lt
  clear hb3 hb4 hT4 hA4 hX3 H12 H13 HB1 HT1 HA1 hq TM HE HG hus hs0
  obtain ⟨nu, hnu⟩ : ∃ nu, us.length = nu := ⟨_, rfl⟩
  rw [hnu] at HST ⊢
  replace hnu := Lib.hid hnu
  go_upto_region 7 with fail
  refine wp_name (fun wx => Hid (StW wx N p q us s0 ∧ MsW wx N p q us s0) ∧ Hid (Below w.heap.size w wx)) ⟨Lib.hid (HST.out _ ((((Keeps.refl _ w4).setCell (fun h => h rfl) _).setCell (fun h => h rfl) _).setCell (fun h => h rfl) _ |>.setCell (fun h => h rfl) _) (Bx.put (Bx.put (Bx.put (Bx.put hX4.out rfl) rfl) rfl) rfl)), Lib.hid ((((HG4.out.setCell hqg.out _).setCell hqg.out _).setCell hqg.out _).setCell hqg.out _)⟩ ?_
  rintro w5 ⟨HS5, HG5⟩
  clear hX4 HST y0 y1 y2 y3 y4 z0 z1 z2 z3 z4 HG4 hN ltq
  go_wp2_with fail
  go_loopw [7] (fun iv wx => ∃ (i : Nat) (s : St), i ≤ K ∧ iv = .int .i64 (i : Int) ∧ Hid (StW wx N p q us s ∧ MsW wx N p q us s) ∧ Hid (Below w.heap.size w wx)) (fun iv _ => K - (intOf iv).toNat)
  case atStart => exact ⟨0, s0, Nat.zero_le _, rfl, HS5, HG5⟩
  case round =>
    clear HS5 HG5
    obtain ⟨i, s, hi, rfl, HS, HG⟩ := hrel
    have hw2 : IntKind.i64.wrap ((i : Int) + 1) = ((i + 1 : Nat) : Int) := by rw [IntWalk.i64_in _ (by omega)]; omega
    by_cases hlt : i < K
    · have l1 : (i : Int) < (n : Int) := by omega
      have l2 : (i : Int) < 30 := by omega
      obtain ⟨x, hx⟩ : ∃ x, acts[i]? = some x := ⟨_, List.getElem?_eq_getElem (by omega)⟩
      obtain ⟨g, off, rfl, hg, p0, p1, p2, p3, p4⟩ := (HA.out.grow HG.out).at_ hx
      obtain ⟨u, m, hu, hu1, hu2, hm1, hm2, hm3⟩ := mod8 x.c
      have hwu : IntKind.i64.wrap u = u := IntWalk.i64_in _ (by omega)
      have hwu8 : IntKind.i64.wrap (u + 8) = u + 8 := IntWalk.i64_in _ (by omega)
      have hwm : IntKind.i64.wrap m = m := IntWalk.i64_in _ (by omega)
      clear hx
      go_upto_region 17 with fail
      obtain ⟨r, hr⟩ : ∃ r, wr.heap.size = r := ⟨_, rfl⟩
      rw [hr]
      refine wp_name (fun wx => Hid (SS w N p q r us x s s wx)) (Lib.hid ⟨HS.out.1.grow (G.alloc (G.refl _) _), HS.out.2.grow (G.alloc (G.refl _) _), Bx.new hr.symm rfl, HG.out.alloc HG.out.size _, hp'.out, hqg.out, by rw [← hr]; exact HS.out.1.1.1⟩) ?_
      rintro w6 Z
      clear p0 p1 p2 p3 p4 hu hwu hwu8 hm1 HS HG hr HA hg
      obtain ⟨k0, k1, k2, k3, k4⟩ := Z.out.X.c5
      have ltr := Z.out.X.lt
      have hm8 : m = 0 ∨ m = 1 ∨ m = 2 ∨ m = 3 ∨ m = 4 ∨ m = 5 ∨ m = 6 ∨ m = 7 := by omega
      clear hm2 hm3
      rcases hm8 with rfl | rfl | rfl | rfl | rfl | rfl | rfl | rfl
      · go_wp2_with fail
        go_at_call 20
        (with_reducible refine (sp_peek Z.out.P).mono ?_)
        unfold tnV
        rintro e1 wA ⟨rfl, hb⟩
        replace Z := Lib.hid (Z.out.grow hb)
        clear hb
        go_wp2_with fail
        go_at_call 27
        (with_reducible refine (mp_peek Z.out.M).mono ?_)
        unfold tnV
        rintro e1 wA ⟨rfl, hb⟩
        replace Z := Lib.hid (Z.out.grow hb)
        clear hb
        have TE := tok_sameE (s.pk us)
        go_wp2_with fail
        go_at_call 19
        (with_reducible refine (sp_error Z.out.P).mono ?_)
        rintro e1 wE ⟨rfl, hbE⟩
        replace Z := Lib.hid (Z.out.grow hbE)
        clear hbE
        obtain ⟨AM, nM, cM, -, -, ltM, hBM⟩ := Z.out.M.bad
        obtain ⟨m0, m1, m2, m3, m4⟩ := hBM.c5
        clear hBM
        go_wp2_with fail
        go_at_call 20
        (with_reducible refine (sp_peek Z.out.P).mono ?_)
        unfold tnV
        rintro e1 wF ⟨rfl, hbF⟩
        replace Z := Lib.hid (Z.out.grow hbF)
        clear hbF m0 m1 m2 m3 m4
        go_wp2_with fail
        go_at_call 27
        (with_reducible refine (mp_peek Z.out.M).mono ?_)
        unfold tnV
        rintro e1 wG ⟨rfl, hbG⟩
        replace Z := Lib.hid (Z.out.grow hbG)
        clear hbG
        have TN := tok_sameN (s.pk us)
        go_wp2_with fail
        go_roundw
        case rel => exact ⟨i + 1, s, by omega, by go_num, ⟨Z.out.P, Z.out.M⟩, Z.out.G⟩
        case measure => simp [intOf]; omega
      · go_wp2_with fail
        go_at_call 21
        (with_reducible refine (sp_next Z.out.P).mono ?_)
        unfold tnV
        rintro e1 wA ⟨rfl, hb⟩
        replace Z := Lib.hid (Z.out.sp hb)
        clear hb
        go_wp2_with fail
        go_at_call 28
        (with_reducible refine (mp_next hKI.out Z.out.M).mono ?_)
        unfold tnV
        rintro e1 wA ⟨rfl, hb⟩
        replace Z := Lib.hid (Z.out.mp hb)
        clear hb
        have TE := tok_sameE (s.pk us)
        obtain ⟨s1, hs1⟩ : ∃ s1, s.nx us = s1 := ⟨_, rfl⟩
        rw [hs1] at Z
        go_wp2_with fail
        go_at_call 19
        (with_reducible refine (sp_error Z.out.P).mono ?_)
        rintro e1 wE ⟨rfl, hbE⟩
        replace Z := Lib.hid (Z.out.grow hbE)
        clear hbE
        obtain ⟨AM, nM, cM, -, -, ltM, hBM⟩ := Z.out.M.bad
        obtain ⟨m0, m1, m2, m3, m4⟩ := hBM.c5
        clear hBM
        go_wp2_with fail
        go_at_call 20
        (with_reducible refine (sp_peek Z.out.P).mono ?_)
        unfold tnV
        rintro e1 wF ⟨rfl, hbF⟩
        replace Z := Lib.hid (Z.out.grow hbF)
        clear hbF m0 m1 m2 m3 m4
        go_wp2_with fail
        go_at_call 27
        (with_reducible refine (mp_peek Z.out.M).mono ?_)
        unfold tnV
        rintro e1 wG ⟨rfl, hbG⟩
        replace Z := Lib.hid (Z.out.grow hbG)
        clear hbG
        have TN := tok_sameN (s1.pk us)
        go_wp2_with fail
        go_roundw
        case rel => exact ⟨i + 1, s1, by omega, by go_num, ⟨Z.out.P, Z.out.M⟩, Z.out.G⟩
        case measure => simp [intOf]; omega
      · go_upto_region 22 with fail
        refine wp_region_ordD [(0, 0), (1, 0), (2, 0), (4, 0), (5, 0), (6, 0), (3, 3), (7, 3), (8, 0), (9, 0)] [3, 7] 5 (HasA r x) (by kernel_rfl) (by decide +kernel) ?_
        simp only [pickO, List.append_eq, List.cons_append, List.nil_append, List.getElem?_cons_succ, List.getElem?_cons_zero]
        intro w0 hG
        have hD := (show HasA r x w0 from ⟨Z.out.X.grow hG.b⟩)
        refine ⟨hD, ?_⟩
        (repeat ((first | (with_reducible refine ord_q1D ?_) | (with_reducible refine ord_q0D ?_)); intro K hK; first | (refine Or.inr ⟨?_, ?_⟩; (focus (go_simp; first | done | (simp [undef]; done))); go_simp; (with_reducible refine hK _ ?_); clear hK K) | (refine Or.inl ⟨?_, ?_⟩; (focus (go_simp; done)); apply Exists.intro; refine And.intro ?_ ?_; (focus (first | (intro wq hq; have hcf := G.old hq; obtain ⟨hcq, hfq⟩ := hcf; go_simp; (first | done | exact rfl); done) | (intro wq hq; (have d0 := (hq.a.2 0 _ rfl).1; have d1 := (hq.a.2 1 _ rfl).1; have d2 := (hq.a.2 2 _ rfl).1; have d3 := (hq.a.2 3 _ rfl).1; have d4 := (hq.a.2 4 _ rfl).1; have ltq := hq.a.1); go_simp; (first | done | exact rfl); done))); go_simp; (with_reducible refine hK _ ?_); clear hK K) | fail))
        replace Z := Lib.hid (Z.out.grow hG.b)
        (with_reducible refine ord_tailD hD ?_)
        intro K hK
        go_simp
        go_at_call 22; (refine (sp_is Z.out.P x.tx).mono ?_); rintro e w7 ⟨rfl, hb⟩; replace Z := Lib.hid (Z.out.grow hb); have hD' := Z.out.ha
        replace hD := hD'
        clear hD'
        (try dsimp only)
        (with_reducible refine hK _ _ hD ?_)
        clear hK K
        (repeat ((first | (with_reducible refine ord_q1D ?_) | (with_reducible refine ord_q0D ?_)); intro K hK; first | (refine Or.inr ⟨?_, ?_⟩; (focus (go_simp; first | done | (simp [undef]; done))); go_simp; (with_reducible refine hK _ ?_); clear hK K) | (refine Or.inl ⟨?_, ?_⟩; (focus (go_simp; done)); apply Exists.intro; refine And.intro ?_ ?_; (focus (first | (intro wq hq; have hcf := G.old hq; obtain ⟨hcq, hfq⟩ := hcf; go_simp; (first | done | exact rfl); done) | (intro wq hq; (have d0 := (hq.a.2 0 _ rfl).1; have d1 := (hq.a.2 1 _ rfl).1; have d2 := (hq.a.2 2 _ rfl).1; have d3 := (hq.a.2 3 _ rfl).1; have d4 := (hq.a.2 4 _ rfl).1; have ltq := hq.a.1); go_simp; (first | done | exact rfl); done))); go_simp; (with_reducible refine hK _ ?_); clear hK K) | fail))
        (with_reducible refine ord_tailD hD ?_)
        intro K hK
        go_simp
        go_at_call 29; (refine (mp_is Z.out.M x.tx).mono ?_); rintro e w8 ⟨rfl, hb⟩; replace Z := Lib.hid (Z.out.grow hb); have hD' := Z.out.ha
        replace hD := hD'
        clear hD'
        (try dsimp only)
        (with_reducible refine hK _ _ hD ?_)
        clear hK K
        (repeat ((first | (with_reducible refine ord_q1D ?_) | (with_reducible refine ord_q0D ?_)); intro K hK; first | (refine Or.inr ⟨?_, ?_⟩; (focus (go_simp; first | done | (simp [undef]; done))); go_simp; (with_reducible refine hK _ ?_); clear hK K) | (refine Or.inl ⟨?_, ?_⟩; (focus (go_simp; done)); apply Exists.intro; refine And.intro ?_ ?_; (focus (first | (intro wq hq; have hcf := G.old hq; obtain ⟨hcq, hfq⟩ := hcf; go_simp; (first | done | exact rfl); done) | (intro wq hq; (have d0 := (hq.a.2 0 _ rfl).1; have d1 := (hq.a.2 1 _ rfl).1; have d2 := (hq.a.2 2 _ rfl).1; have d3 := (hq.a.2 3 _ rfl).1; have d4 := (hq.a.2 4 _ rfl).1; have ltq := hq.a.1); go_simp; (first | done | exact rfl); done))); go_simp; (with_reducible refine hK _ ?_); clear hK K) | fail))
        (with_reducible refine ord_nilD ?_)
        go_wp2_with fail
        go_at_call 19
        (with_reducible refine (sp_error Z.out.P).mono ?_)
        rintro e1 wE ⟨rfl, hbE⟩
        replace Z := Lib.hid (Z.out.grow hbE)
        clear hbE
        obtain ⟨AM, nM, cM, -, -, ltM, hBM⟩ := Z.out.M.bad
        obtain ⟨m0, m1, m2, m3, m4⟩ := hBM.c5
        clear hBM
        go_wp2_with fail
        go_at_call 20
        (with_reducible refine (sp_peek Z.out.P).mono ?_)
        unfold tnV
        rintro e1 wF ⟨rfl, hbF⟩
        replace Z := Lib.hid (Z.out.grow hbF)
        clear hbF m0 m1 m2 m3 m4
        go_wp2_with fail
        go_at_call 27
        (with_reducible refine (mp_peek Z.out.M).mono ?_)
        unfold tnV
        rintro e1 wG ⟨rfl, hbG⟩
        replace Z := Lib.hid (Z.out.grow hbG)
        clear hbG
        have TN := tok_sameN (s.pk us)
        go_wp2_with fail
        go_roundw
        case rel => exact ⟨i + 1, s, by omega, by go_num, ⟨Z.out.P, Z.out.M⟩, Z.out.G⟩
        case measure => simp [intOf]; omega
      · by_cases hb : s.isB us x.tx = true
        · have ha : s.acc us x.tx = s.nx us := by unfold St.acc; rw [if_pos hb]
          go_wp2_with fail
          go_at_call 29
          (with_reducible refine (mp_is Z.out.M x.tx).mono ?_)
          rw [hb]
          rintro e1 wA ⟨rfl, hbA⟩
          replace Z := Lib.hid (Z.out.grow hbA)
          clear hbA
          clear k0 k1 k2 k3 k4 ltr
          obtain ⟨k0, k1, k2, k3, k4⟩ := Z.out.X.c5
          have ltr := Z.out.X.lt
          go_wp2_with fail
          go_at_call 28
          (with_reducible refine (mp_next hKI.out Z.out.M).mono ?_)
          unfold tnV
          rintro e1 wA ⟨rfl, hbA⟩
          replace Z := Lib.hid (Z.out.mp hbA)
          clear hbA
          clear k0 k1 k2 k3 k4 ltr
          obtain ⟨k0, k1, k2, k3, k4⟩ := Z.out.X.c5
          have ltr := Z.out.X.lt
          go_wp2_with fail
          go_at_call 23
          (with_reducible refine (sp_accept Z.out.P x.tx).mono ?_)
          rw [hb, ha]
          rintro e1 wA ⟨rfl, hbA⟩
          replace Z := Lib.hid (Z.out.sp hbA)
          clear hbA
          obtain ⟨s1, hs1⟩ : ∃ s1, s.nx us = s1 := ⟨_, rfl⟩
          rw [hs1] at Z
          go_wp2_with fail
          go_at_call 19
          (with_reducible refine (sp_error Z.out.P).mono ?_)
          rintro e1 wE ⟨rfl, hbE⟩
          replace Z := Lib.hid (Z.out.grow hbE)
          clear hbE
          obtain ⟨AM, nM, cM, -, -, ltM, hBM⟩ := Z.out.M.bad
          obtain ⟨m0, m1, m2, m3, m4⟩ := hBM.c5
          clear hBM
          go_wp2_with fail
          go_at_call 20
          (with_reducible refine (sp_peek Z.out.P).mono ?_)
          unfold tnV
          rintro e1 wF ⟨rfl, hbF⟩
          replace Z := Lib.hid (Z.out.grow hbF)
          clear hbF m0 m1 m2 m3 m4
          go_wp2_with fail
          go_at_call 27
          (with_reducible refine (mp_peek Z.out.M).mono ?_)
          unfold tnV
          rintro e1 wG ⟨rfl, hbG⟩
          replace Z := Lib.hid (Z.out.grow hbG)
          clear hbG
          have TN := tok_sameN (s1.pk us)
          go_wp2_with fail
          go_roundw
          case rel => exact ⟨i + 1, s1, by omega, by go_num, ⟨Z.out.P, Z.out.M⟩, Z.out.G⟩
          case measure => simp [intOf]; omega
        · have ha : s.acc us x.tx = s := by unfold St.acc; rw [if_neg hb]
          replace hb : s.isB us x.tx = false := by simpa using hb
          go_wp2_with fail
          go_at_call 29
          (with_reducible refine (mp_is Z.out.M x.tx).mono ?_)
          rw [hb]
          rintro e1 wA ⟨rfl, hbA⟩
          replace Z := Lib.hid (Z.out.grow hbA)
          clear hbA
          clear k0 k1 k2 k3 k4 ltr
          obtain ⟨k0, k1, k2, k3, k4⟩ := Z.out.X.c5
          have ltr := Z.out.X.lt
          go_wp2_with fail
          go_at_call 23
          (with_reducible refine (sp_accept Z.out.P x.tx).mono ?_)
          rw [hb, ha]
          rintro e1 wA ⟨rfl, hbA⟩
          replace Z := Lib.hid (Z.out.sp hbA)
          clear hbA
          go_wp2_with fail
          go_at_call 19
          (with_reducible refine (sp_error Z.out.P).mono ?_)
          rintro e1 wE ⟨rfl, hbE⟩
          replace Z := Lib.hid (Z.out.grow hbE)
          clear hbE
          obtain ⟨AM, nM, cM, -, -, ltM, hBM⟩ := Z.out.M.bad
          obtain ⟨m0, m1, m2, m3, m4⟩ := hBM.c5
          clear hBM
          go_wp2_with fail
          go_at_call 20
          (with_reducible refine (sp_peek Z.out.P).mono ?_)
          unfold tnV
          rintro e1 wF ⟨rfl, hbF⟩
          replace Z := Lib.hid (Z.out.grow hbF)
          clear hbF m0 m1 m2 m3 m4
          go_wp2_with fail
          go_at_call 27
          (with_reducible refine (mp_peek Z.out.M).mono ?_)
          unfold tnV
          rintro e1 wG ⟨rfl, hbG⟩
          replace Z := Lib.hid (Z.out.grow hbG)
          clear hbG
          have TN := tok_sameN (s.pk us)
          go_wp2_with fail
          go_roundw
          case rel => exact ⟨i + 1, s, by omega, by go_num, ⟨Z.out.P, Z.out.M⟩, Z.out.G⟩
          case measure => simp [intOf]; omega
      · by_cases hb : s.isB us x.tx = true
        · have ha : s.xpt us x.tx = s.nx us := by unfold St.xpt; rw [if_pos hb]
          go_wp2_with fail
          go_at_call 17
          (with_reducible refine (sp_expect Z.out.P x.tx).mono ?_)
          rw [ha]
          rintro e1 wA ⟨rfl, hbA⟩
          replace Z := Lib.hid (Z.out.sp hbA)
          clear hbA
          clear k0 k1 k2 k3 k4 ltr
          obtain ⟨k0, k1, k2, k3, k4⟩ := Z.out.X.c5
          have ltr := Z.out.X.lt
          go_wp2_with fail
          go_at_call 29
          (with_reducible refine (mp_is Z.out.M x.tx).mono ?_)
          rw [hb]
          rintro e1 wA ⟨rfl, hbA⟩
          replace Z := Lib.hid (Z.out.grow hbA)
          clear hbA
          go_wp2_with fail
          go_at_call 28
          (with_reducible refine (mp_next hKI.out Z.out.M).mono ?_)
          unfold tnV
          rintro e1 wA ⟨rfl, hbA⟩
          replace Z := Lib.hid (Z.out.mp hbA)
          clear hbA
          obtain ⟨s1, hs1⟩ : ∃ s1, s.nx us = s1 := ⟨_, rfl⟩
          rw [hs1] at Z
          go_wp2_with fail
          go_at_call 19
          (with_reducible refine (sp_error Z.out.P).mono ?_)
          rintro e1 wE ⟨rfl, hbE⟩
          replace Z := Lib.hid (Z.out.grow hbE)
          clear hbE
          obtain ⟨AM, nM, cM, -, -, ltM, hBM⟩ := Z.out.M.bad
          obtain ⟨m0, m1, m2, m3, m4⟩ := hBM.c5
          clear hBM
          go_wp2_with fail
          go_at_call 20
          (with_reducible refine (sp_peek Z.out.P).mono ?_)
          unfold tnV
          rintro e1 wF ⟨rfl, hbF⟩
          replace Z := Lib.hid (Z.out.grow hbF)
          clear hbF m0 m1 m2 m3 m4
          go_wp2_with fail
          go_at_call 27
          (with_reducible refine (mp_peek Z.out.M).mono ?_)
          unfold tnV
          rintro e1 wG ⟨rfl, hbG⟩
          replace Z := Lib.hid (Z.out.grow hbG)
          clear hbG
          have TN := tok_sameN (s1.pk us)
          go_wp2_with fail
          go_roundw
          case rel => exact ⟨i + 1, s1, by omega, by go_num, ⟨Z.out.P, Z.out.M⟩, Z.out.G⟩
          case measure => simp [intOf]; omega
        · have ha : s.xpt us x.tx = s.fl us 13 := by unfold St.xpt; rw [if_neg hb]
          replace hb : s.isB us x.tx = false := by simpa using hb
          go_wp2_with fail
          go_at_call 17
          (with_reducible refine (sp_expect Z.out.P x.tx).mono ?_)
          rw [ha]
          rintro e1 wA ⟨rfl, hbA⟩
          replace Z := Lib.hid (Z.out.sp hbA)
          clear hbA
          clear k0 k1 k2 k3 k4 ltr
          obtain ⟨k0, k1, k2, k3, k4⟩ := Z.out.X.c5
          have ltr := Z.out.X.lt
          go_wp2_with fail
          go_at_call 29
          (with_reducible refine (mp_is Z.out.M x.tx).mono ?_)
          rw [hb]
          rintro e1 wA ⟨rfl, hbA⟩
          replace Z := Lib.hid (Z.out.grow hbA)
          clear hbA
          go_wp2_with fail
          go_at_call 30
          (with_reducible refine (mp_fail Z.out.M 13 (by decide)).mono ?_)
          rintro e1 wA ⟨rfl, hbA⟩
          replace Z := Lib.hid (Z.out.mp hbA)
          clear hbA
          obtain ⟨s1, hs1⟩ : ∃ s1, s.fl us 13 = s1 := ⟨_, rfl⟩
          rw [hs1] at Z
          go_wp2_with fail
          go_at_call 19
          (with_reducible refine (sp_error Z.out.P).mono ?_)
          rintro e1 wE ⟨rfl, hbE⟩
          replace Z := Lib.hid (Z.out.grow hbE)
          clear hbE
          obtain ⟨AM, nM, cM, -, -, ltM, hBM⟩ := Z.out.M.bad
          obtain ⟨m0, m1, m2, m3, m4⟩ := hBM.c5
          clear hBM
          go_wp2_with fail
          go_at_call 20
          (with_reducible refine (sp_peek Z.out.P).mono ?_)
          unfold tnV
          rintro e1 wF ⟨rfl, hbF⟩
          replace Z := Lib.hid (Z.out.grow hbF)
          clear hbF m0 m1 m2 m3 m4
          go_wp2_with fail
          go_at_call 27
          (with_reducible refine (mp_peek Z.out.M).mono ?_)
          unfold tnV
          rintro e1 wG ⟨rfl, hbG⟩
          replace Z := Lib.hid (Z.out.grow hbG)
          clear hbG
          have TN := tok_sameN (s1.pk us)
          go_wp2_with fail
          go_roundw
          case rel => exact ⟨i + 1, s1, by omega, by go_num, ⟨Z.out.P, Z.out.M⟩, Z.out.G⟩
          case measure => simp [intOf]; omega
      · have TE := tok_sameE (s.tkT us x.k)
        go_upto_region 34 with fail
        refine wp_region_ordD [(0, 0), (1, 0), (2, 0), (4, 0), (5, 0), (6, 0), (3, 3), (7, 3), (8, 0), (9, 0)] [3, 7] 5 (HasA r x) (by kernel_rfl) (by decide +kernel) ?_
        simp only [pickO, List.append_eq, List.cons_append, List.nil_append, List.getElem?_cons_succ, List.getElem?_cons_zero]
        intro w0 hG
        have hD := (show HasA r x w0 from ⟨Z.out.X.grow hG.b⟩)
        refine ⟨hD, ?_⟩
        (repeat ((first | (with_reducible refine ord_q1D ?_) | (with_reducible refine ord_q0D ?_)); intro K hK; first | (refine Or.inr ⟨?_, ?_⟩; (focus (go_simp; first | done | (simp [undef]; done))); go_simp; (with_reducible refine hK _ ?_); clear hK K) | (refine Or.inl ⟨?_, ?_⟩; (focus (go_simp; done)); apply Exists.intro; refine And.intro ?_ ?_; (focus (first | (intro wq hq; have hcf := G.old hq; obtain ⟨hcq, hfq⟩ := hcf; go_simp; (first | done | exact rfl); done) | (intro wq hq; (have d0 := (hq.a.2 0 _ rfl).1; have d1 := (hq.a.2 1 _ rfl).1; have d2 := (hq.a.2 2 _ rfl).1; have d3 := (hq.a.2 3 _ rfl).1; have d4 := (hq.a.2 4 _ rfl).1; have ltq := hq.a.1); go_simp; (first | done | exact rfl); done))); go_simp; (with_reducible refine hK _ ?_); clear hK K) | fail))
        replace Z := Lib.hid (Z.out.grow hG.b)
        (with_reducible refine ord_tailD hD ?_)
        intro K hK
        go_simp
        go_at_call 24; (refine (sp_take Z.out.P x.k).mono ?_); unfold tnV; rintro e w7 ⟨rfl, hb⟩; replace Z := Lib.hid (Z.out.sp hb); have hD' := Z.out.ha
        replace hD := hD'
        clear hD'
        (try dsimp only)
        (with_reducible refine hK _ _ hD ?_)
        clear hK K
        (repeat ((first | (with_reducible refine ord_q1D ?_) | (with_reducible refine ord_q0D ?_)); intro K hK; first | (refine Or.inr ⟨?_, ?_⟩; (focus (go_simp; first | done | (simp [undef]; done))); go_simp; (with_reducible refine hK _ ?_); clear hK K) | (refine Or.inl ⟨?_, ?_⟩; (focus (go_simp; done)); apply Exists.intro; refine And.intro ?_ ?_; (focus (first | (intro wq hq; have hcf := G.old hq; obtain ⟨hcq, hfq⟩ := hcf; go_simp; (first | done | exact rfl); done) | (intro wq hq; (have d0 := (hq.a.2 0 _ rfl).1; have d1 := (hq.a.2 1 _ rfl).1; have d2 := (hq.a.2 2 _ rfl).1; have d3 := (hq.a.2 3 _ rfl).1; have d4 := (hq.a.2 4 _ rfl).1; have ltq := hq.a.1); go_simp; (first | done | exact rfl); done))); go_simp; (with_reducible refine hK _ ?_); clear hK K) | fail))
        (with_reducible refine ord_tailD hD ?_)
        intro K hK
        go_simp
        go_at_call 31; (refine (mp_take hKI.out Z.out.M x.k).mono ?_); unfold tnV; rintro e w8 ⟨rfl, hb⟩; replace Z := Lib.hid (Z.out.mp hb); have hD' := Z.out.ha
        replace hD := hD'
        clear hD'
        (try dsimp only)
        (with_reducible refine hK _ _ hD ?_)
        clear hK K
        (repeat ((first | (with_reducible refine ord_q1D ?_) | (with_reducible refine ord_q0D ?_)); intro K hK; first | (refine Or.inr ⟨?_, ?_⟩; (focus (go_simp; first | done | (simp [undef]; done))); go_simp; (with_reducible refine hK _ ?_); clear hK K) | (refine Or.inl ⟨?_, ?_⟩; (focus (go_simp; done)); apply Exists.intro; refine And.intro ?_ ?_; (focus (first | (intro wq hq; have hcf := G.old hq; obtain ⟨hcq, hfq⟩ := hcf; go_simp; (first | done | exact rfl); done) | (intro wq hq; (have d0 := (hq.a.2 0 _ rfl).1; have d1 := (hq.a.2 1 _ rfl).1; have d2 := (hq.a.2 2 _ rfl).1; have d3 := (hq.a.2 3 _ rfl).1; have d4 := (hq.a.2 4 _ rfl).1; have ltq := hq.a.1); go_simp; (first | done | exact rfl); done))); go_simp; (with_reducible refine hK _ ?_); clear hK K) | fail))
        (with_reducible refine ord_nilD ?_)
        obtain ⟨s1, hs1⟩ : ∃ s1, s.tk us x.k = s1 := ⟨_, rfl⟩
        rw [hs1] at Z
        go_wp2_with fail
        go_at_call 19
        (with_reducible refine (sp_error Z.out.P).mono ?_)
        rintro e1 wE ⟨rfl, hbE⟩
        replace Z := Lib.hid (Z.out.grow hbE)
        clear hbE
        obtain ⟨AM, nM, cM, -, -, ltM, hBM⟩ := Z.out.M.bad
        obtain ⟨m0, m1, m2, m3, m4⟩ := hBM.c5
        clear hBM
        go_wp2_with fail
        go_at_call 20
        (with_reducible refine (sp_peek Z.out.P).mono ?_)
        unfold tnV
        rintro e1 wF ⟨rfl, hbF⟩
        replace Z := Lib.hid (Z.out.grow hbF)
        clear hbF m0 m1 m2 m3 m4
        go_wp2_with fail
        go_at_call 27
        (with_reducible refine (mp_peek Z.out.M).mono ?_)
        unfold tnV
        rintro e1 wG ⟨rfl, hbG⟩
        replace Z := Lib.hid (Z.out.grow hbG)
        clear hbG
        have TN := tok_sameN (s1.pk us)
        go_wp2_with fail
        go_roundw
        case rel => exact ⟨i + 1, s1, by omega, by go_num, ⟨Z.out.P, Z.out.M⟩, Z.out.G⟩
        case measure => simp [intOf]; omega
      · go_upto_region 36 with fail
        refine wp_region_ordD [(0, 0), (1, 0), (2, 0), (3, 0), (4, 0), (6, 0), (7, 0), (8, 0), (9, 0), (10, 0), (5, 3), (11, 3), (12, 0), (13, 0)] [5, 11] 5 (HasA r x) (by kernel_rfl) (by decide +kernel) ?_
        simp only [pickO, List.append_eq, List.cons_append, List.nil_append, List.getElem?_cons_succ, List.getElem?_cons_zero]
        intro w0 hG
        have hD := (show HasA r x w0 from ⟨Z.out.X.grow hG.b⟩)
        refine ⟨hD, ?_⟩
        (repeat ((first | (with_reducible refine ord_q1D ?_) | (with_reducible refine ord_q0D ?_)); intro K hK; first | (refine Or.inr ⟨?_, ?_⟩; (focus (go_simp; first | done | (simp [undef]; done))); go_simp; (with_reducible refine hK _ ?_); clear hK K) | (refine Or.inl ⟨?_, ?_⟩; (focus (go_simp; done)); apply Exists.intro; refine And.intro ?_ ?_; (focus (first | (intro wq hq; have hcf := G.old hq; obtain ⟨hcq, hfq⟩ := hcf; go_simp; (first | done | exact rfl); done) | (intro wq hq; (have d0 := (hq.a.2 0 _ rfl).1; have d1 := (hq.a.2 1 _ rfl).1; have d2 := (hq.a.2 2 _ rfl).1; have d3 := (hq.a.2 3 _ rfl).1; have d4 := (hq.a.2 4 _ rfl).1; have ltq := hq.a.1); go_simp; (first | done | exact rfl); done))); go_simp; (with_reducible refine hK _ ?_); clear hK K) | fail))
        replace Z := Lib.hid (Z.out.grow hG.b)
        (with_reducible refine ord_tailD hD ?_)
        intro K hK
        go_simp
        go_at_call 25; (refine (sp_int Z.out.P x.lo x.hi).mono ?_); rintro e w7 ⟨rfl, hb⟩; replace Z := Lib.hid (Z.out.sp hb); have hD' := Z.out.ha
        replace hD := hD'
        clear hD'
        (try dsimp only)
        (with_reducible refine hK _ _ hD ?_)
        clear hK K
        (repeat ((first | (with_reducible refine ord_q1D ?_) | (with_reducible refine ord_q0D ?_)); intro K hK; first | (refine Or.inr ⟨?_, ?_⟩; (focus (go_simp; first | done | (simp [undef]; done))); go_simp; (with_reducible refine hK _ ?_); clear hK K) | (refine Or.inl ⟨?_, ?_⟩; (focus (go_simp; done)); apply Exists.intro; refine And.intro ?_ ?_; (focus (first | (intro wq hq; have hcf := G.old hq; obtain ⟨hcq, hfq⟩ := hcf; go_simp; (first | done | exact rfl); done) | (intro wq hq; (have d0 := (hq.a.2 0 _ rfl).1; have d1 := (hq.a.2 1 _ rfl).1; have d2 := (hq.a.2 2 _ rfl).1; have d3 := (hq.a.2 3 _ rfl).1; have d4 := (hq.a.2 4 _ rfl).1; have ltq := hq.a.1); go_simp; (first | done | exact rfl); done))); go_simp; (with_reducible refine hK _ ?_); clear hK K) | fail))
        (with_reducible refine ord_tailD hD ?_)
        intro K hK
        go_simp
        go_at_call 32; (refine (mp_number hKI.out Z.out.M x.lo x.hi).mono ?_); rintro e w8 ⟨rfl, hb⟩; replace Z := Lib.hid (Z.out.mp hb); have hD' := Z.out.ha
        replace hD := hD'
        clear hD'
        (try dsimp only)
        (with_reducible refine hK _ _ hD ?_)
        clear hK K
        (repeat ((first | (with_reducible refine ord_q1D ?_) | (with_reducible refine ord_q0D ?_)); intro K hK; first | (refine Or.inr ⟨?_, ?_⟩; (focus (go_simp; first | done | (simp [undef]; done))); go_simp; (with_reducible refine hK _ ?_); clear hK K) | (refine Or.inl ⟨?_, ?_⟩; (focus (go_simp; done)); apply Exists.intro; refine And.intro ?_ ?_; (focus (first | (intro wq hq; have hcf := G.old hq; obtain ⟨hcq, hfq⟩ := hcf; go_simp; (first | done | exact rfl); done) | (intro wq hq; (have d0 := (hq.a.2 0 _ rfl).1; have d1 := (hq.a.2 1 _ rfl).1; have d2 := (hq.a.2 2 _ rfl).1; have d3 := (hq.a.2 3 _ rfl).1; have d4 := (hq.a.2 4 _ rfl).1; have ltq := hq.a.1); go_simp; (first | done | exact rfl); done))); go_simp; (with_reducible refine hK _ ?_); clear hK K) | fail))
        (with_reducible refine ord_nilD ?_)
        obtain ⟨s1, hs1⟩ : ∃ s1, ((s.hd us x.lo).num us (s.ng us x.lo) x.lo x.hi).2 = s1 := ⟨_, rfl⟩
        rw [hs1] at Z
        go_wp2_with fail
        go_at_call 19
        (with_reducible refine (sp_error Z.out.P).mono ?_)
        rintro e1 wE ⟨rfl, hbE⟩
        replace Z := Lib.hid (Z.out.grow hbE)
        clear hbE
        obtain ⟨AM, nM, cM, -, -, ltM, hBM⟩ := Z.out.M.bad
        obtain ⟨m0, m1, m2, m3, m4⟩ := hBM.c5
        clear hBM
        go_wp2_with fail
        go_at_call 20
        (with_reducible refine (sp_peek Z.out.P).mono ?_)
        unfold tnV
        rintro e1 wF ⟨rfl, hbF⟩
        replace Z := Lib.hid (Z.out.grow hbF)
        clear hbF m0 m1 m2 m3 m4
        go_wp2_with fail
        go_at_call 27
        (with_reducible refine (mp_peek Z.out.M).mono ?_)
        unfold tnV
        rintro e1 wG ⟨rfl, hbG⟩
        replace Z := Lib.hid (Z.out.grow hbG)
        clear hbG
        have TN := tok_sameN (s1.pk us)
        go_wp2_with fail
        go_roundw
        case rel => exact ⟨i + 1, s1, by omega, by go_num, ⟨Z.out.P, Z.out.M⟩, Z.out.G⟩
        case measure => simp [intOf]; omega
      · by_cases hk0 : x.k = 0
        · go_wp2_with fail
          go_at_call 18
          (with_reducible refine (sp_fail Z.out.P 0).mono ?_)
          rw [St.fl_zero]
          rintro e1 wA ⟨rfl, hbA⟩
          replace Z := Lib.hid (Z.out.sp hbA)
          clear hbA
          go_wp2_with fail
          go_at_call 19
          (with_reducible refine (sp_error Z.out.P).mono ?_)
          rintro e1 wE ⟨rfl, hbE⟩
          replace Z := Lib.hid (Z.out.grow hbE)
          clear hbE
          obtain ⟨AM, nM, cM, -, -, ltM, hBM⟩ := Z.out.M.bad
          obtain ⟨m0, m1, m2, m3, m4⟩ := hBM.c5
          clear hBM
          go_wp2_with fail
          go_at_call 20
          (with_reducible refine (sp_peek Z.out.P).mono ?_)
          unfold tnV
          rintro e1 wF ⟨rfl, hbF⟩
          replace Z := Lib.hid (Z.out.grow hbF)
          clear hbF m0 m1 m2 m3 m4
          go_wp2_with fail
          go_at_call 27
          (with_reducible refine (mp_peek Z.out.M).mono ?_)
          unfold tnV
          rintro e1 wG ⟨rfl, hbG⟩
          replace Z := Lib.hid (Z.out.grow hbG)
          clear hbG
          have TN := tok_sameN (s.pk us)
          go_wp2_with fail
          go_roundw
          case rel => exact ⟨i + 1, s, by omega, by go_num, ⟨Z.out.P, Z.out.M⟩, Z.out.G⟩
          case measure => simp [intOf]; omega
        · go_wp2_with fail
          go_at_call 18
          (with_reducible refine (sp_fail Z.out.P x.k).mono ?_)
          rintro e1 wA ⟨rfl, hbA⟩
          replace Z := Lib.hid (Z.out.sp hbA)
          clear hbA
          go_wp2_with fail
          go_at_call 30
          (with_reducible refine (mp_fail Z.out.M x.k hk0).mono ?_)
          rintro e1 wA ⟨rfl, hbA⟩
          replace Z := Lib.hid (Z.out.mp hbA)
          clear hbA
          obtain ⟨s1, hs1⟩ : ∃ s1, s.fl us x.k = s1 := ⟨_, rfl⟩
          rw [hs1] at Z
          go_wp2_with fail
          go_at_call 19
          (with_reducible refine (sp_error Z.out.P).mono ?_)
          rintro e1 wE ⟨rfl, hbE⟩
          replace Z := Lib.hid (Z.out.grow hbE)
          clear hbE
          obtain ⟨AM, nM, cM, -, -, ltM, hBM⟩ := Z.out.M.bad
          obtain ⟨m0, m1, m2, m3, m4⟩ := hBM.c5
          clear hBM
          go_wp2_with fail
          go_at_call 20
          (with_reducible refine (sp_peek Z.out.P).mono ?_)
          unfold tnV
          rintro e1 wF ⟨rfl, hbF⟩
          replace Z := Lib.hid (Z.out.grow hbF)
          clear hbF m0 m1 m2 m3 m4
          go_wp2_with fail
          go_at_call 27
          (with_reducible refine (mp_peek Z.out.M).mono ?_)
          unfold tnV
          rintro e1 wG ⟨rfl, hbG⟩
          replace Z := Lib.hid (Z.out.grow hbG)
          clear hbG
          have TN := tok_sameN (s1.pk us)
          go_wp2_with fail
          go_roundw
          case rel => exact ⟨i + 1, s1, by omega, by go_num, ⟨Z.out.P, Z.out.M⟩, Z.out.G⟩
          case measure => simp [intOf]; omega
    · have hiK : i = K := by omega
      subst hiK
      have hc : ((i : Int) < (n : Int) ∧ ¬ (i : Int) < 30) ∨ ¬ (i : Int) < (n : Int) := by
        have := hKK.out
        omega
      rcases hc with ⟨l1, l2⟩ | l1
      all_goals
        go_wp2_with fail
        go_ret
        exact ⟨rfl, HG.out⟩
end
theorem lexerStreams_any (t : ByteArray) (A : Option Addr) (n c : Nat) (x : List Ac) (W : World) (ws : t.size ≤ maxLen) (hA : ActsW W A n c x) (hE : Env W) : Calls Tryz.prog 6 #[.string t, .slice A n c] W fun e W' => e = .returned (.bool true) ∧ Below W.heap.size W W' := lexerStreams_w hE t hA
end Go.Proofs.YtmchiibbodllaaaGreatDoor
