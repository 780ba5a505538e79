/- LexerLists. -/
import Derived.Test.YtmchiibbodllaaaGreatDoorRows
import Derived.Test.YtmchiibbodllaaaGreatDoorData
import Derived.Test.YtmchiibbodllaaaGreatDoorLFrame
import Derived.Test.YtmchiibbodllaaaGreatDoorTk
import Derived.Test.YtmchiibbodllaaaGreatDoorTw
import Derived.Test.YtmchiibbodllaaaGreatDoorMm3
namespace Go.Proofs.YtmchiibbodllaaaGreatDoor
set_option linter.unusedVariables false
set_option linter.unnecessarySimpa false
set_option linter.unusedSimpArgs false
open Go.ChangeShapes Go.WideShapes Go.ChangeAt Go.RowKit Go.Joins

theorem mapM_get {α β : Type} {f : α → Option β} : ∀ {l : List α} {ys : List β}, l.mapM f = some ys → ys.length = l.length ∧ ∀ (i : Nat) (y : β), ys[i]? = some y → ∃ x, l[i]? = some x ∧ f x = some y
  | [], ys, h => by
    simp at h
    subst h
    exact ⟨rfl, fun i y hy => by simp at hy⟩
  | a :: l, ys, h => by
    rw [List.mapM_cons] at h
    rcases ha : f a with _ | b
    · rw [ha] at h; cases h
    · rw [ha] at h
      rcases hl : l.mapM f with _ | zs
      · rw [hl] at h; cases h
      · rw [hl] at h
        cases h
        obtain ⟨h1, h2⟩ := mapM_get hl
        refine ⟨by simp [h1], fun i y hy => ?_⟩
        rcases i with _ | i
        · simp at hy; subst hy; exact ⟨a, rfl, ha⟩
        · exact h2 i y (by simpa using hy)
theorem add_at (b off i : Nat) : Addr.add ⟨b, off, none⟩ i = ⟨b, off + i, none⟩ := by unfold Addr.add; split <;> simp_all
theorem cells_get {W : World} {a : Addr} {n : Nat} {cs : List Value} (h : W.cells? 0 a n = some cs) : cs.length = n ∧ ∀ i u, cs[i]? = some u → W.cell? (a.add i) = some u := by
  unfold World.cells? at h
  rw [if_pos (Nat.zero_le _)] at h
  obtain ⟨h1, h2⟩ := mapM_get h
  rw [List.length_range] at h1
  refine ⟨h1, fun i u hu => ?_⟩
  obtain ⟨x, hx, hf⟩ := h2 i u hu
  have hi : i < n := by have := (List.getElem?_eq_some_iff.1 hu).1; omega
  rw [List.getElem?_range hi] at hx
  cases hx
  exact hf
abbrev Any' : Nat → Prop := fun _ => True
section
variable {H : Type} {enc : TypeId × Value → H} {P : Program} {W : World}
/-- A slice that came in: its cells, and how its elements are read. -/
theorem slice_rw {t e : TypeId} {sz fuel : Nat} {c : Value} {x : DataW H × List MemPlace} (ht : P.underlying t = some (.slice e)) (hsz : P.cellsOf e = sz) (h0 : 0 < sz)
    (h : DataW.trod enc P W 0 (fun _ => true) true fuel t [c] = some x) :
    ∃ A n cp xs, c = .slice A n cp ∧ Rw Any' W sz A n cp xs ∧ ((x.1 = .nil ∧ n = 0) ∨ ∃ m elems sp, fuel = m + 1 ∧ x.1 = .slice elems sp ∧ elems.length = n ∧
      ∀ j, j < n → ∃ y, elems[j]? = some y.1 ∧ DataW.trod enc P W 0 (fun _ => true) true m e ((xs.drop (j * sz)).take sz) = some y) := by
  rcases DataW.trod_slice ht h with ⟨hc, rfl⟩ | ⟨a, len, cap, elems, rest, m, rfl, hc, rfl, _, hl, hm, hlen, hel, _, _⟩
  · cases hc
    exact ⟨none, 0, 0, [], rfl, Rw.nil _ _ _, .inl ⟨rfl, rfl⟩⟩
  · cases hc
    rw [hsz] at hel
    have each : ∀ i, i < len → ∃ cs' y, W.cells? 0 (a.add (i * sz)) sz = some cs' ∧ elems[i]? = some y ∧ DataW.trod enc P W 0 (fun _ => true) true m e cs' = some y := by
      intro i hi
      have h1 := hel i hi
      rw [List.getElem?_eq_getElem (by omega)] at h1 ⊢
      rcases hcs : W.cells? 0 (a.add (i * sz)) sz with _ | cs'
      · rw [hcs] at h1; cases h1
      · rw [hcs] at h1
        exact ⟨cs', _, rfl, rfl, h1⟩
    rcases Nat.eq_zero_or_pos len with hz | hp
    · subst hz
      refine ⟨some a, 0, cap, [], rfl, ⟨hl, hm, by rw [Nat.zero_mul]; exact Sl.nil _ _, fun h => absurd h (by omega)⟩, .inr ⟨m, elems.map (·.1), rest.map (·.1), rfl, rfl, by simpa using hlen, fun j hj => absurd hj (by omega)⟩⟩
    · obtain ⟨b, off, spot⟩ := a
      have hs : spot = none := by
        obtain ⟨cs', y, hcs, _, _⟩ := each 0 hp
        obtain ⟨k1, k2⟩ := cells_get hcs
        have := k2 0 _ (List.getElem?_eq_getElem (by omega))
        simpa [Addr.add] using World.cell?_spot this
      subst hs
      have cell : ∀ i k, i < len → k < sz → ∃ u, W.cell? ⟨b, off + i * sz + k, none⟩ = some u := by
        intro i k hi hk
        obtain ⟨cs', y, hcs, _, _⟩ := each i hi
        obtain ⟨k1, k2⟩ := cells_get hcs
        have := k2 k _ (List.getElem?_eq_getElem (by omega))
        rw [add_at, add_at] at this
        exact ⟨_, this⟩
      have hxs : ∀ i, i < len → ∀ cs', W.cells? 0 (Addr.add ⟨b, off, none⟩ (i * sz)) sz = some cs' →
          ((((List.range (len * sz)).map fun k => (W.cell? ⟨b, off + k, none⟩).getD undef).drop (i * sz)).take sz) = cs' := by
        intro i hi cs' hcs
        obtain ⟨k1, k2⟩ := cells_get hcs
        have hb : (i + 1) * sz ≤ len * sz := Nat.mul_le_mul_right sz hi
        rw [Nat.add_mul, Nat.one_mul] at hb
        apply List.ext_getElem?
        intro k
        rw [List.getElem?_take]
        split
        · rename_i hk
          rw [List.getElem?_drop, List.getElem?_map, List.getElem?_range (by omega), List.getElem?_eq_getElem (by omega)]
          have := k2 k _ (List.getElem?_eq_getElem (by omega))
          rw [add_at, add_at, Nat.add_assoc] at this
          simp only [Option.map_some, this, Option.getD_some]
        · rw [List.getElem?_eq_none (by omega)]
      refine ⟨some ⟨b, off, none⟩, len, cap, (List.range (len * sz)).map fun k => (W.cell? ⟨b, off + k, none⟩).getD undef, rfl, ⟨hl, hm, ⟨by simp, fun _ => ⟨b, off, rfl, ?_, fun j u hu => ?_⟩⟩, fun _ _ _ => trivial⟩, .inr ⟨m, elems.map (·.1), rest.map (·.1), rfl, rfl, by simpa using hlen, fun j hj => ?_⟩⟩
      · obtain ⟨u, hu⟩ := cell 0 0 hp h0
        exact cell_lt hu
      · have hj : j < len * sz := by have := (List.getElem?_eq_some_iff.1 hu).1; simpa using this
        rw [List.getElem?_map, List.getElem?_range hj] at hu
        cases hu
        have e1 : j / sz < len := Nat.div_lt_of_lt_mul (by rw [Nat.mul_comm]; exact hj)
        obtain ⟨u, hu⟩ := cell (j / sz) (j % sz) e1 (Nat.mod_lt _ h0)
        have e2 : off + j / sz * sz + j % sz = off + j := by
          have := Nat.div_add_mod j sz
          rw [Nat.mul_comm] at this
          omega
        rw [e2] at hu
        show W.cell? ⟨b, off + j, none⟩ = some ((W.cell? ⟨b, off + j, none⟩).getD undef)
        rw [hu]
        rfl
      · obtain ⟨cs', y, hcs, hy, ht'⟩ := each j hj
        exact ⟨y, by rw [List.getElem?_map, hy]; rfl, by rw [hxs j hj cs' hcs]; exact ht'⟩
theorem all_mem {e : TypeId} : ∀ {l : List (DataW H)} {d : DataW H}, d ∈ l → ∀ n ∈ d.weights P e, n ∈ DataW.weightsAll P e l
  | [], _, h, _, _ => by cases h
  | a :: l, d, h, n, hn => by
    unfold DataW.weightsAll
    rcases List.mem_cons.1 h with rfl | h
    · exact List.mem_append.2 (.inl hn)
    · exact List.mem_append.2 (.inr (all_mem h n hn))
/-- The bytes of what came in are few. -/
def Light (P : Program) (t : TypeId) (d : DataW H) : Prop := ∀ n ∈ d.weights P t, n ≤ reachBytes
theorem Light.slice {t e : TypeId} {elems sp : List (DataW H)} (ht : P.underlying t = some (.slice e)) (h : Light P t (.slice elems sp)) : elems.length * P.bytesOf e ≤ reachBytes ∧ ∀ d ∈ elems, Light P e d := by
  have hw : (DataW.slice elems sp).weights P t = (elems.length + sp.length) * P.bytesOf e :: (DataW.weightsAll P e elems ++ DataW.weightsAll P e sp) := by
    show (match P.underlying t with | some (.slice e) => _ | _ => _) = _
    rw [ht]
  unfold Light at h
  rw [hw] at h
  refine ⟨Nat.le_trans (Nat.mul_le_mul_right _ (Nat.le_add_right _ _)) (h _ (List.mem_cons_self ..)), fun d hd n hn => h n (List.mem_cons_of_mem _ (List.mem_append.2 (.inl (all_mem hd n hn))))⟩
theorem Light.part {t : TypeId} {fs : Array Field} {parts : List (DataW H)} (ht : P.underlying t = some (.struct fs)) (h : Light P t (.agg parts)) {j : Nat} {f : Field} {d : DataW H} (hf : fs[j]? = some f) (hd : parts[j]? = some d) : Light P f.type d := by
  have hw : (DataW.agg parts).weights P t = DataW.weightsEach P (fs.toList.map (·.type)) parts := by
    show (match P.underlying t with | some (.struct fs) => _ | some (.array _ e) => _ | _ => _) = _
    rw [ht]
  intro n hn
  exact h n (by rw [hw]; exact DataW.weights_mem_each (j := j) (by simp [hf]) hd n hn)
end
section
variable {H : Type} {enc : TypeId × Value → H} {W : World}
abbrev Tr (enc : TypeId × Value → H) (W : World) (fuel : Nat) (t : TypeId) (cs : List Value) (x : DataW H × List MemPlace) : Prop := DataW.trod enc Tryz.prog W 0 (fun _ => true) true fuel t cs = some x
theorem reach_le : reachBytes ≤ 140737488355328 := Nat.le_of_lt (by have := reachBytes_lt; have e : (2 : Nat) ^ 47 = 140737488355328 := by decide
                                                                    omega)
theorem list2 {α : Type} {l : List α} (h : l.length = 2) : ∃ a b, l = [a, b] := by
  match l, h with
  | [a, b], _ => exact ⟨a, b, rfl⟩
theorem list4 {α : Type} {l : List α} (h : l.length = 4) : ∃ a b c d, l = [a, b, c, d] := by
  match l, h with
  | [a, b, c, d], _ => exact ⟨a, b, c, d, rfl⟩
theorem list5 {α : Type} {l : List α} (h : l.length = 5) : ∃ a b c d e, l = [a, b, c, d, e] := by
  match l, h with
  | [a, b, c, d, e], _ => exact ⟨a, b, c, d, e, rfl⟩
theorem list6 {α : Type} {l : List α} (h : l.length = 6) : ∃ a b c d e f, l = [a, b, c, d, e, f] := by
  match l, h with
  | [a, b, c, d, e, f], _ => exact ⟨a, b, c, d, e, f, rfl⟩
theorem list7 {α : Type} {l : List α} (h : l.length = 7) : ∃ a b c d e f g, l = [a, b, c, d, e, f, g] := by
  match l, h with
  | [a, b, c, d, e, f, g], _ => exact ⟨a, b, c, d, e, f, g, rfl⟩
theorem list11 {α : Type} {l : List α} (h : l.length = 11) : ∃ a b c d e f g i j k m, l = [a, b, c, d, e, f, g, i, j, k, m] := by
  match l, h with
  | [a, b, c, d, e, f, g, i, j, k, m], _ => exact ⟨a, b, c, d, e, f, g, i, j, k, m, rfl⟩
end
theorem choose_list {α : Type} {p : Nat → α → Prop} : ∀ (n : Nat), (∀ j, j < n → ∃ a, p j a) → ∃ l : List α, l.length = n ∧ ∀ j a, l[j]? = some a → p j a
  | 0, _ => ⟨[], rfl, fun j a h => by simp at h⟩
  | n + 1, h => by
    obtain ⟨l, hl, hp⟩ := choose_list n fun j hj => h j (by omega)
    obtain ⟨a, ha⟩ := h n (by omega)
    refine ⟨l ++ [a], by simp [hl], fun j x hx => ?_⟩
    rcases Nat.lt_or_ge j l.length with hj | hj
    · rw [List.getElem?_append_left hj] at hx
      exact hp j x hx
    · have hjn : j = n := by
        have := (List.getElem?_eq_some_iff.1 hx).1
        simp at this
        omega
      subst hjn
      rw [List.getElem?_append_right hj, hl, Nat.sub_self] at hx
      cases hx
      exact ha
end Go.Proofs.YtmchiibbodllaaaGreatDoor

namespace Go.Proofs.YtmchiibbodllaaaGreatDoor
set_option linter.unusedVariables false
set_option linter.unnecessarySimpa false
set_option linter.unusedSimpArgs false
open Go.ChangeShapes Go.WideShapes Go.ChangeAt Go.RowKit Go.Joins

theorem Tryz.laidOutT : laidOutB Tryz.prog = true := by kernel_rfl
theorem Tryz.cellsTok : Tryz.prog.cellsOf 33 = 8 := by kernel_rfl
theorem Tryz.cellsIntT : Tryz.prog.cellsOf 3 = 1 := by kernel_rfl
theorem Tryz.cellsStrT : Tryz.prog.cellsOf 9 = 1 := by kernel_rfl
theorem Tryz.cellsBoolT : Tryz.prog.cellsOf 4 = 1 := by kernel_rfl
theorem Tryz.cellsNumT : Tryz.prog.cellsOf 31 = 2 := by kernel_rfl
theorem list8 {α : Type} {l : List α} (h : l.length = 8) : ∃ a b c d e f g i, l = [a, b, c, d, e, f, g, i] := by
  match l, h with
  | [a, b, c, d, e, f, g, i], _ => exact ⟨a, b, c, d, e, f, g, i, rfl⟩
section
variable {H : Type} {enc : TypeId × Value → H} {W : World}
theorem int_ofT {fuel : Nat} {c : Value} {x : DataW H × List MemPlace} (h : Tr enc W fuel 3 [c] x) : ∃ n : Int, c = .int .i64 n := by
  obtain ⟨z, hz, _, wz⟩ := DataW.trod_int Tryz.underlying3 h
  exact ⟨z, by simpa using hz⟩
theorem str_ofT {fuel : Nat} {c : Value} {x : DataW H × List MemPlace} (h : Tr enc W fuel 9 [c] x) : ∃ l : List UInt8, c = .string (B l) := by
  obtain ⟨n, e, _, hs⟩ := DataW.trod_string Tryz.underlying9 h
  cases e
  exact ⟨n.data.toList, by rw [← B_of rfl]⟩
theorem bool_ofT {fuel : Nat} {c : Value} {x : DataW H × List MemPlace} (h : Tr enc W fuel 4 [c] x) : ∃ v : Bool, c = .bool v := by
  obtain ⟨z, hz, _⟩ := DataW.trod_bool Tryz.underlying4 h
  exact ⟨z, by simpa using hz⟩
set_option maxRecDepth 200000 in
theorem num_ofT {fuel : Nat} {c d : Value} {x : DataW H × List MemPlace} (h : Tr enc W fuel 31 [c, d] x) : ∃ n s : Int, c = .int .i64 n ∧ d = .int .i64 s := by
  obtain ⟨ys, k', hk', rfl, hl', hlen', hf'⟩ := DataW.trod_struct Tryz.underlying31 h
  obtain ⟨y0, y1, rfl⟩ := list2 (show ys.length = 2 from hlen')
  have g0 : Tr enc W k' 3 ((([c, d] : List Value).drop 0).take (Tryz.prog.cellsOf 3)) y0 := hf' 0 _ rfl
  have g1 : Tr enc W k' 3 ((([c, d] : List Value).drop 1).take (Tryz.prog.cellsOf 3)) y1 := hf' 1 _ rfl
  rw [Tryz.cellsIntT] at g0 g1
  obtain ⟨n, rfl⟩ := int_ofT g0
  obtain ⟨s, rfl⟩ := int_ofT g1
  exact ⟨n, s, rfl, rfl⟩
theorem list7y {α : Type} {l : List α} (h : l.length = 7) : ∃ a b c d e f g, l = [a, b, c, d, e, f, g] := by
  match l, h with
  | [a, b, c, d, e, f, g], _ => exact ⟨a, b, c, d, e, f, g, rfl⟩
set_option maxRecDepth 200000 in
theorem tok_of {fuel : Nat} {cs : List Value} {x : DataW H × List MemPlace} (h : Tr enc W fuel 33 cs x) : ∃ t : Tn, cs = tnC t := by
  obtain ⟨ys, k', hk', rfl, hl', hlen', hf'⟩ := DataW.trod_struct Tryz.underlying33 h
  rw [Tryz.cellsTok] at hl'
  obtain ⟨a, b, c, d, e, f, g, i, rfl⟩ := list8 hl'
  obtain ⟨y0, y1, y2, y3, y4, y5, y6, rfl⟩ := list7y (show ys.length = 7 from hlen')
  have g0 : Tr enc W k' 3 ((([a, b, c, d, e, f, g, i] : List Value).drop 0).take (Tryz.prog.cellsOf 3)) y0 := hf' 0 _ rfl
  have g1 : Tr enc W k' 3 ((([a, b, c, d, e, f, g, i] : List Value).drop 1).take (Tryz.prog.cellsOf 3)) y1 := hf' 1 _ rfl
  have g2 : Tr enc W k' 3 ((([a, b, c, d, e, f, g, i] : List Value).drop 2).take (Tryz.prog.cellsOf 3)) y2 := hf' 2 _ rfl
  have g3 : Tr enc W k' 9 ((([a, b, c, d, e, f, g, i] : List Value).drop 3).take (Tryz.prog.cellsOf 9)) y3 := hf' 3 _ rfl
  have g4 : Tr enc W k' 9 ((([a, b, c, d, e, f, g, i] : List Value).drop 4).take (Tryz.prog.cellsOf 9)) y4 := hf' 4 _ rfl
  have g5 : Tr enc W k' 31 ((([a, b, c, d, e, f, g, i] : List Value).drop 5).take (Tryz.prog.cellsOf 31)) y5 := hf' 5 _ rfl
  have g6 : Tr enc W k' 4 ((([a, b, c, d, e, f, g, i] : List Value).drop 7).take (Tryz.prog.cellsOf 4)) y6 := hf' 6 _ rfl
  rw [Tryz.cellsIntT] at g0 g1 g2
  rw [Tryz.cellsStrT] at g3 g4
  rw [Tryz.cellsNumT] at g5
  rw [Tryz.cellsBoolT] at g6
  obtain ⟨n0, rfl⟩ := int_ofT g0
  obtain ⟨n1, rfl⟩ := int_ofT g1
  obtain ⟨n2, rfl⟩ := int_ofT g2
  obtain ⟨l3, rfl⟩ := str_ofT g3
  obtain ⟨l4, rfl⟩ := str_ofT g4
  obtain ⟨n5, n6, rfl, rfl⟩ := num_ofT g5
  obtain ⟨v6, rfl⟩ := bool_ofT g6
  exact ⟨⟨n0, n1, n2, l3, l4, n5, n6, v6⟩, rfl⟩
theorem rwT_chunks : ∀ (xs : List Value) (l : List Tn), xs.length = l.length * 8 → (∀ j t, l[j]? = some t → (xs.drop (j * 8)).take 8 = tnC t) → xs = rwT l
  | xs, [], h, _ => List.eq_nil_of_length_eq_zero (by simpa using h)
  | xs, t :: l, h, hc => by
    have h0 := hc 0 t rfl
    rw [Nat.zero_mul, List.drop_zero] at h0
    have ih := rwT_chunks (xs.drop 8) l (by rw [List.length_drop, h, List.length_cons]; omega) (fun j u hj => by
      have := hc (j + 1) u (by simpa using hj)
      rw [List.drop_drop, show 8 + j * 8 = (j + 1) * 8 by omega]
      exact this)
    unfold rwT at ih ⊢
    rw [List.flatMap_cons, ← h0, ← ih, List.take_append_drop]
set_option maxRecDepth 200000 in
theorem open_tokens {v : Value} {d : DataW H} {p : List MemPlace} {base : Nat} (hv : Value.okWide Tryz.prog W .any base 23 v)
    (h : DataW.Trod enc Tryz.prog W 0 (fun _ => true) true 23 v d p) : ∃ A n c l, v = .slice A n c ∧ TksW W A n c l := by
  obtain ⟨a0, len, cap, rfl⟩ := okWide_slice Tryz.underlying23 hv
  obtain ⟨fuel, hf⟩ := h
  obtain ⟨A, n, c, xs, he, hr, hx⟩ := slice_rw Tryz.underlying23 Tryz.cellsTok (by decide) hf
  have each : ∀ j, j < n → ∃ o : Tn, (xs.drop (j * 8)).take 8 = tnC o := by
    intro j hj
    rcases hx with ⟨_, rfl⟩ | ⟨m, elems, sp, _, hd, _, hel⟩
    · omega
    · obtain ⟨y, hy1, hy2⟩ := hel j hj
      exact tok_of hy2
  obtain ⟨l, hl, hp⟩ := choose_list n each
  obtain ⟨h1, h2, h3, h4⟩ := hr
  have hxs : xs = rwT l := rwT_chunks xs l (by rw [h3.1, hl]) hp
  rw [hxs] at h3
  exact ⟨A, n, c, l, he, hl, h1, h2, h3⟩
end
theorem TksW.take {w : World} {A : Option Addr} {n c : Nat} {ts : List Tn} (h : TksW w A n c ts) {k : Nat} (hk : k ≤ n) : TksW w A k c (ts.take k) := by
  obtain ⟨h1, h2, h3, h4⟩ := h
  have e : (rwT ts).take (k * 8) = rwT (ts.take k) := by
    have h5 : rwT ts = rwT (ts.take k) ++ rwT (ts.drop k) := by rw [← rwT_app, List.take_append_drop]
    rw [h5, List.take_left' (by rw [rwT_len, List.length_take]; omega)]
  exact ⟨by rw [List.length_take]; omega, by omega, h3, by rw [← e]; exact h4.take (by omega)⟩
end Go.Proofs.YtmchiibbodllaaaGreatDoor

namespace Go.Proofs.YtmchiibbodllaaaGreatDoor
set_option linter.unusedVariables false
set_option linter.unnecessarySimpa false
set_option linter.unusedSimpArgs false
open Go.RowKit

def cutT (t : Tn) : Tn := ⟨t.k, t.ln, t.cl, t.tx.take 40, t.v.take 40, t.n, t.s, t.j⟩
/-- Where Print and the definition part, neither list is the given one. -/
theorem lists_law (all : List Tn) (hl : (prL true all).length ≤ 60000) (hw : (wrL true all).length ≤ 60000) :
    (∃ us, scanA (wrL true all) = .ok us ∧ sameB false (toks (wrL true all) us) all = true ∧ prRes all = (wrL true all, 0)) ∨
    ((∀ us, scanA (wrL true all) = .ok us → sameB false (toks (wrL true all) us) all = false) ∧ prRes all = ([], 3)) := by
  by_cases h : ∃ us, scanA (wrL true all) = .ok us ∧ sameB false (toks (wrL true all) us) all = true
  · obtain ⟨us, h1, h2⟩ := h
    have h3 : prL true all = wrL true all := by
      unfold scanA at h1
      rw [if_neg (by omega)] at h1
      exact shape_again h1 ((sameB_key _ _).1 h2)
    refine .inl ⟨us, h1, h2, ?_⟩
    unfold prRes
    rw [h3, h1]
    simp only
    rw [if_pos h2]
  · refine .inr ⟨fun us hu => ?_, ?_⟩
    · rcases hb : sameB false (toks (wrL true all) us) all with _ | _
      · rfl
      · exact absurd ⟨us, hu, hb⟩ h
    · unfold prRes
      rcases hs : scanA (prL true all) with us | ⟨o, e⟩
      · simp only
        rw [if_neg]
        intro h2
        have h3 : prL true all = wrL true all := by
          have h1 := hs
          unfold scanA at h1
          rw [if_neg (by omega)] at h1
          exact shape_again h1 ((sameB_key _ _).1 h2)
        rw [h3] at hs h2
        exact h ⟨us, hs, h2⟩
      · rfl
section
variable {w : World} {A : Option Addr} {n c : Nat} {ts : List Tn}
set_option maxRecDepth 20000 in set_option maxHeartbeats 8000000 in
theorem lexerLists_w (hE : Env w) (hD : Tab4 w) (hA : TksW w A n c ts) : Calls Tryz.prog 9 #[.slice A n c] w fun e w' => e = .returned (.bool true) ∧ Below w.heap.size w w' := by
  obtain ⟨iU, hUi, hU0, hU1, hU2⟩ := info_parts infoTok
  have HA := Lib.hid hA
  have HE := Lib.hid hE
  have HD := Lib.hid hD
  have lA := hA.len
  obtain ⟨K, hK⟩ : ∃ K, min n 30 = K := ⟨_, rfl⟩
  have hKn : K ≤ n := by omega
  have hK30 : K ≤ 30 := by omega
  have hKK : Hid (K = n ∨ K = 30) := by unfold Hid; omega
  clear hA hE hD hK
  go_enter Tryz.func9, Tryz.ntmps9
  go_wp2_with fail
  have H0 : Hid (w.ownsRow w.heap.size tT 8 (.slice none 0 0) 0 (rwT ((ts.map cutT).take 0))) := ⟨rfl, .inl ⟨rfl, rfl⟩⟩
  go_loopw [3, 4] (fun av iv wx => ∃ (i : Nat) (A1 : Option Addr) (c1 : Nat), i ≤ K ∧ av = .slice A1 i c1 ∧ iv = .int .i64 (i : Int) ∧ Hid (wx.ownsRow w.heap.size tT 8 (.slice A1 i c1) i (rwT ((ts.map cutT).take i))) ∧ Hid (Below w.heap.size w wx)) (fun _ iv _ => K - (intOf iv).toNat)
  case atStart => exact ⟨0, none, 0, Nat.zero_le _, rfl, rfl, H0, G.refl w⟩
  case round =>
    clear H0
    obtain ⟨i, A1, c1, hi, rfl, rfl, HO, HG⟩ := hrel
    have hw2 : IntKind.i64.wrap ((i : Int) + 1) = ((i + 1 : Nat) : Int) := by rw [IntWalk.i64_in _ (by omega)]; omega
    by_cases hlt : i < K
    · have l1 : (i : Int) < (n : Int) := by omega
      have l2 : (i : Int) < 30 := by omega
      obtain ⟨x, hx⟩ : ∃ x, ts[i]? = some x := ⟨_, List.getElem?_eq_getElem (by omega)⟩
      have hx2 : (ts.map cutT)[i]? = some (cutT x) := by rw [List.getElem?_map, hx]; rfl
      have hT : Hid (rwT ((ts.map cutT).take i) ++ tnC (cutT x) = rwT ((ts.map cutT).take (i + 1))) := by
        obtain ⟨h1, h2⟩ := List.getElem?_eq_some_iff.1 hx2
        unfold Hid
        rw [List.take_succ_eq_append_getElem h1, h2, rwT_app]
        congr 1
      obtain ⟨g, off, rfl, hg, p0, p1, p2, p3, p4, p5, p6, p7⟩ := (HA.out.grow HG.out).at_ hx
      obtain ⟨k3, hk3⟩ : ∃ k, k = min (B x.tx).size 40 := ⟨_, rfl⟩
      obtain ⟨k4, hk4⟩ : ∃ k, k = min (B x.v).size 40 := ⟨_, rfl⟩
      have e3 := take_cut (B x.tx) 40 k3 hk3
      have e4 := take_cut (B x.v) 40 k4 hk4
      rw [B_list] at e3 e4
      have m3 : min ((B x.tx).size : Int) 40 = (k3 : Int) := by omega
      have m4 : min ((B x.v).size : Int) 40 = (k4 : Int) := by omega
      have b3 : (k3 : Int) ≤ ((B x.tx).size : Int) := by omega
      have b4 : (k4 : Int) ≤ ((B x.v).size : Int) := by omega
      have b5 : k3 ≤ (B x.tx).size := by omega
      have b6 : k4 ≤ (B x.v).size := by omega
      obtain ⟨S3, hS3⟩ : ∃ S, B x.tx = S := ⟨_, rfl⟩
      obtain ⟨S4, hS4⟩ : ∃ S, B x.v = S := ⟨_, rfl⟩
      rw [hS3] at p3 e3 m3 b3 b5
      rw [hS4] at p4 e4 m4 b4 b6
      clear hx hx2 hk3 hk4
      have hC : Hid (B x.tx = S3 ∧ B x.v = S4) := ⟨hS3, hS4⟩
      have HK3 := Lib.hid e3
      have HK4 := Lib.hid e4
      clear hS3 hS4
      go_upto_region 6 with fail
      obtain ⟨r, hr⟩ : ∃ r, wr.heap.size = r := ⟨_, rfl⟩
      rw [hr]
      refine wp_name (fun wx => Hid (Bx wx r (tkC x.k x.ln x.cl S3 S4 x.n x.s x.j)) ∧ Hid (Below r wr wx)) ⟨Bx.new hr.symm rfl, by rw [← hr]; exact G.alloc (G.refl wr) _⟩ ?_
      rintro w1 ⟨HB, HB1⟩
      obtain ⟨q0, q1, q2, q3, q4, q5, q6, q7, qr⟩ : w1.cell? ⟨r, 0, none⟩ = some (.int .i64 x.k) ∧ w1.cell? ⟨r, 1, none⟩ = some (.int .i64 x.ln) ∧ w1.cell? ⟨r, 2, none⟩ = some (.int .i64 x.cl) ∧ w1.cell? ⟨r, 3, none⟩ = some (.string S3) ∧ w1.cell? ⟨r, 4, none⟩ = some (.string S4) ∧ w1.frozen? ⟨r, 3, none⟩ = false ∧ w1.frozen? ⟨r, 4, none⟩ = false ∧ r < w1.heap.size ∧ True :=
        ⟨(HB.out.2 0 _ rfl).1, (HB.out.2 1 _ rfl).1, (HB.out.2 2 _ rfl).1, (HB.out.2 3 _ rfl).1, (HB.out.2 4 _ rfl).1, (HB.out.2 3 _ rfl).2, (HB.out.2 4 _ rfl).2, HB.out.lt, trivial⟩
      clear p0 p1 p2 p3 p4 p5 p6 p7
      refine wp_region_ord [(0, 1), (1, 1), (2, 1), (3, 1), (4, 1), (5, 1), (6, 1), (7, 1), (8, 1), (9, 1), (10, 1), (11, 0), (12, 0), (13, 0), (14, 1), (15, 3), (16, 0), (17, 3)] [15, 17] 5 (by kernel_rfl) (by decide +kernel) ?_
      simp only [pickO, List.append_eq, List.cons_append, List.nil_append, List.getElem?_cons_succ, List.getElem?_cons_zero]
      intro w0 hG
      (repeat ((first | (with_reducible refine ord_q1 ?_) | (with_reducible refine ord_q0 ?_)); intro K hK; first | (refine Or.inr ⟨?_, ?_⟩; (focus (go_simp; first | done | (simp [undef]; done))); go_simp; (with_reducible refine hK _ ?_); clear hK K) | (refine Or.inl ⟨?_, ?_⟩; (focus (go_simp; done)); apply Exists.intro; refine And.intro ?_ ?_; (focus (first | (intro wq hq; obtain ⟨hcq, hfq⟩ := G.old hq; go_simp; (first | done | exact rfl); done) | (intro wq; go_simp; (first | done | exact rfl); done))); go_simp; (with_reducible refine hK _ ?_); clear hK K) | fail))
      have HB2 := Lib.hid (HB.out.grow hG.b)
      have HBB2 := Lib.hid (HB1.out.trans (hG.b.mono (Nat.le_of_lt HB.out.lt)))
      have z3 := (HB2.out.2 3 _ rfl).1
      have z4 := (HB2.out.2 4 _ rfl).1
      have y3 := (HB2.out.2 3 _ rfl).2
      have y4 := (HB2.out.2 4 _ rfl).2
      ((with_reducible refine ord_tail ?_); intro K hK; go_simp; (with_reducible refine hK _ _ ?_); clear hK K)
      (repeat ((first | (with_reducible refine ord_q1 ?_) | (with_reducible refine ord_q0 ?_)); intro K hK; first | (refine Or.inr ⟨?_, ?_⟩; (focus (go_simp; first | done | (simp [undef]; done))); go_simp; (with_reducible refine hK _ ?_); clear hK K) | (refine Or.inl ⟨?_, ?_⟩; (focus (go_simp; done)); apply Exists.intro; refine And.intro ?_ ?_; (focus (first | (intro wq hq; obtain ⟨hcq, hfq⟩ := G.old hq; go_simp; (first | done | exact rfl); done) | (intro wq; go_simp; (first | done | exact rfl); done))); go_simp; (with_reducible refine hK _ ?_); clear hK K) | fail))
      ((with_reducible refine ord_tail ?_); intro K hK; go_simp; (with_reducible refine hK _ _ ?_); clear hK K)
      (with_reducible refine ord_nil ?_)
      refine name_k (fun wx => Hid (Bx wx r (tnC (cutT x))) ∧ Hid (Below r wr wx)) ⟨Lib.hid (Bx.put (Bx.put HB2.out rfl) rfl), Lib.hid ((HBB2.out.setCell (Nat.le_refl r) _).setCell (Nat.le_refl r) _)⟩ ?_
      rintro w2 ⟨HX, HB3⟩
      clear hG HB2 HBB2 z3 z4 y3 y4 q0 q1 q2 q3 q4 q5 q6 q7 qr HB HB1
      obtain ⟨⟨p0, p1, p2, p3, p4, p5, p6, p7⟩, -⟩ := HX.out.tok
      have lr := HX.out.lt
      have hob := HO.out.lt
      obtain ⟨y, hy⟩ : ∃ y, cutT x = y := ⟨_, rfl⟩
      rw [hy] at p0 p1 p2 p3 p4 p5 p6 p7 hT
      go_wp2_with (at_builtin; apply stopHere)
      apply Lib.hid
      (refine wpList_app _ rfl (.tmp 43) (.tmp 45) _ rfl w.heap.size 33 iU _ 8 80 Tryz.underlying23 hUi hU0 hU1 hU2 rfl (by decide) _ i _ rfl (own_grow HO.out (G.alloc (by rw [hr]; exact HB3.out) _)) (some ⟨w2.heap.size, 0, none⟩) 1 1 (tnC y) rfl (Sl.new rfl rfl) (tnC_one _) (by show _ ≤ 2 ^ 63 - 1; omega) (by omega) (by have := HG.out.size; simp; omega) ?_; intro A3 cc3 w5 hown5 hc5 hm5 hg5; rw [hT.out] at hown5; refine wpList_nm (fun wx => Hid (wx.ownsRow w.heap.size tT 8 (.slice A3 (i + 1) cc3) (i + 1) (rwT ((ts.map cutT).take (i + 1)))) ∧ Hid (Below w.heap.size w wx)) ⟨hown5, ((HG.out.trans (HB3.out.mono (by have := HG.out.size; omega))).alloc (by have := HG.out.size; omega) _).grown hg5 (by have := HG.out.size; simp; omega) (fun k hk => (hob _ hk).1)⟩ ?_; clear hown5 hc5 hm5 hg5; rintro w8 ⟨HO8, HG8⟩)
      clear HX HB3 p0 p1 p2 p3 p4 p5 p6 p7
      go_wp2_with fail
      go_roundw
      case rel => exact ⟨i + 1, A3, cc3, by omega, rfl, by go_num, HO8, HG8⟩
      case measure => simp [intOf]; omega
    · have hiK : i = K := by omega
      subst hiK
      have hc : ((i : Int) < (n : Int) ∧ ¬ (i : Int) < 30) ∨ ¬ (i : Int) < (n : Int) := by
        have := hKK.out
        omega
      obtain ⟨all, hall⟩ : ∃ l, (ts.map cutT).take i = l := ⟨_, rfl⟩
      rw [hall] at HO
      have hlen : all.length = i := by rw [← hall, List.length_take, List.length_map]; omega
      have hsh : Short i 80 all := ⟨by omega, by omega, fun t ht => by
        rw [← hall] at ht
        obtain ⟨u, _, rfl⟩ := List.mem_map.1 (List.mem_of_mem_take ht)
        show (u.tx.take 40).length + (u.v.take 40).length ≤ 80
        rw [List.length_take, List.length_take]
        omega⟩
      have hpl : (prL true all).length ≤ 60000 := Nat.le_trans (prL_len 80 all true hsh.2.2) (by rw [hlen]; omega)
      have hwl : (wrL true all).length ≤ 60000 := Nat.le_trans (wrL_len 80 all true hsh.2.2) (by rw [hlen]; omega)
      have hlaw := lists_law all hpl hwl
      have U := Lib.hid (TksW.of_own HO.out)
      have HE1 := Lib.hid (HE.out.grow HG.out)
      have PR := Lib.hid (print_any HE1.out (HD.out.grow HG.out) U.out hsh)
      have WR := Lib.hid (fun (wx : World) (hE : Env wx) (hA : TksW wx A1 i c1 all) => written_any hE hA hsh)
      obtain ⟨W, hW⟩ : ∃ W, wrL true all = W := ⟨_, rfl⟩
      rw [hW] at hlaw WR
      have TM := Lib.hid (fun (wx : World) (hE : Env wx) => tokens_m hE (B W))
      rw [B_list] at TM
      clear hall hlen hsh hpl hwl hW HO HA HE
      rcases hlaw with ⟨us, hs, hsm, hp⟩ | ⟨hno, hp⟩
      · rw [hp] at PR
        dsimp only at PR
        rw [hs] at TM
        have hul := (scanA_ok hs).2
        have htl := toks_len W us
        obtain ⟨S, hS⟩ : ∃ S, B W = S := ⟨_, rfl⟩
        rw [hS] at PR WR TM
        replace hsm := Lib.hid hsm
        obtain ⟨ul, hul'⟩ : ∃ ul, us.length + 1 = ul := ⟨_, rfl⟩
        have hul2 : ul ≤ 100000 := by omega
        have HUL := Lib.hid hul'
        clear hs hp hul htl hul' hS
        rcases hc with ⟨l1, l2⟩ | l1
        all_goals
          go_wp2_with fail
          go_at_call 38
          (with_reducible refine PR.out.mono ?_)
          rintro e1 w2 ⟨rfl, hb2⟩
          replace U := Lib.hid (U.out.grow hb2)
          replace HE1 := Lib.hid (HE1.out.grow hb2)
          replace HG := Lib.hid (G.trans HG.out hb2)
          clear hb2
          go_wp2_with fail
          go_at_call 16
          (with_reducible refine (WR.out _ HE1.out U.out).mono ?_)
          rintro e1 w3 ⟨rfl, hb3⟩
          replace U := Lib.hid (U.out.grow hb3)
          replace HE1 := Lib.hid (HE1.out.grow hb3)
          replace HG := Lib.hid (G.trans HG.out hb3)
          clear hb3
          go_wp2_with fail
          go_at_call 13
          (with_reducible refine (TM.out _ HE1.out).mono ?_)
          rintro e1 w4 ⟨hb4, A4, c4, rfl, hown⟩
          rw [rowC_rwT] at hown
          have hT4 := TksW.of_own hown
          rw [HUL.out] at hT4 ⊢
          replace U := Lib.hid (U.out.grow hb4)
          replace HE1 := Lib.hid (HE1.out.grow hb4)
          replace HG := Lib.hid (G.trans HG.out hb4)
          have SM := Lib.hid (same_false hT4 U.out hul2 (by omega))
          rw [hsm.out] at SM
          clear hb4 hown hT4
          go_wp2_with fail
          go_at_call 15
          (with_reducible refine SM.out.mono ?_)
          rintro e1 w5 ⟨rfl, hb5⟩
          replace HE1 := Lib.hid (HE1.out.grow hb5)
          replace HG := Lib.hid (G.trans HG.out hb5)
          clear hb5 SM
          go_wp2_with fail
          go_at_call 14
          (with_reducible refine (known_any HE1.out).mono ?_)
          rintro e1 w6 ⟨rfl, hb6⟩
          go_wp2_with fail
          go_ret
          exact ⟨rfl, G.trans HG.out hb6⟩
      · rw [hp] at PR
        dsimp only at PR
        rw [show B [] = ⟨#[]⟩ from rfl] at PR
        rcases hs : scanA W with us | ⟨o, x⟩
        · rw [hs] at TM
          have hsm := Lib.hid (hno us hs)
          have hul := (scanA_ok hs).2
          have htl := toks_len W us
          obtain ⟨S, hS⟩ : ∃ S, B W = S := ⟨_, rfl⟩
          rw [hS] at WR TM
          obtain ⟨ul, hul'⟩ : ∃ ul, us.length + 1 = ul := ⟨_, rfl⟩
          have hul2 : ul ≤ 100000 := by omega
          have HUL := Lib.hid hul'
          clear hs hp hul htl hul' hS hno
          rcases hc with ⟨l1, l2⟩ | l1
          all_goals
            go_wp2_with fail
            go_at_call 38
            (with_reducible refine PR.out.mono ?_)
            rintro e1 w2 ⟨rfl, hb2⟩
            replace U := Lib.hid (U.out.grow hb2)
            replace HE1 := Lib.hid (HE1.out.grow hb2)
            replace HG := Lib.hid (G.trans HG.out hb2)
            clear hb2
            go_wp2_with fail
            go_at_call 16
            (with_reducible refine (WR.out _ HE1.out U.out).mono ?_)
            rintro e1 w3 ⟨rfl, hb3⟩
            replace U := Lib.hid (U.out.grow hb3)
            replace HE1 := Lib.hid (HE1.out.grow hb3)
            replace HG := Lib.hid (G.trans HG.out hb3)
            clear hb3
            go_wp2_with fail
            go_at_call 13
            (with_reducible refine (TM.out _ HE1.out).mono ?_)
            rintro e1 w4 ⟨hb4, A4, c4, rfl, hown⟩
            rw [rowC_rwT] at hown
            have hT4 := TksW.of_own hown
            rw [HUL.out] at hT4 ⊢
            replace U := Lib.hid (U.out.grow hb4)
            replace HE1 := Lib.hid (HE1.out.grow hb4)
            replace HG := Lib.hid (G.trans HG.out hb4)
            have SM := Lib.hid (same_false hT4 U.out hul2 (by omega))
            rw [hsm.out] at SM
            clear hb4 hown hT4
            go_wp2_with fail
            go_at_call 15
            (with_reducible refine SM.out.mono ?_)
            rintro e1 w5 ⟨rfl, hb5⟩
            replace HE1 := Lib.hid (HE1.out.grow hb5)
            replace HG := Lib.hid (G.trans HG.out hb5)
            clear hb5 SM
            go_wp2_with fail
            go_at_call 14
            (with_reducible refine (known_any HE1.out).mono ?_)
            rintro e1 w6 ⟨rfl, hb6⟩
            go_wp2_with fail
            go_ret
            exact ⟨rfl, G.trans HG.out hb6⟩
        · rw [hs] at TM
          have hx0 := scanA_bad hs
          have kx : (x != 0) = true := by simp [hx0]
          obtain ⟨S, hS⟩ : ∃ S, B W = S := ⟨_, rfl⟩
          rw [hS] at WR TM
          clear hs hp hS hno hx0
          rcases hc with ⟨l1, l2⟩ | l1
          all_goals
            go_wp2_with fail
            go_at_call 38
            (with_reducible refine PR.out.mono ?_)
            rintro e1 w2 ⟨rfl, hb2⟩
            replace U := Lib.hid (U.out.grow hb2)
            replace HE1 := Lib.hid (HE1.out.grow hb2)
            replace HG := Lib.hid (G.trans HG.out hb2)
            clear hb2
            go_wp2_with fail
            go_at_call 16
            (with_reducible refine (WR.out _ HE1.out U.out).mono ?_)
            rintro e1 w3 ⟨rfl, hb3⟩
            replace HE1 := Lib.hid (HE1.out.grow hb3)
            replace HG := Lib.hid (G.trans HG.out hb3)
            clear hb3
            go_wp2_with fail
            go_at_call 13
            (with_reducible refine (TM.out _ HE1.out).mono ?_)
            rintro e1 w4 ⟨hb4, rfl⟩
            replace HE1 := Lib.hid (HE1.out.grow hb4)
            replace HG := Lib.hid (G.trans HG.out hb4)
            clear hb4
            go_wp2_with fail
            go_at_call 14
            (with_reducible refine (known_any HE1.out).mono ?_)
            rintro e1 w6 ⟨rfl, hb6⟩
            go_wp2_with fail
            go_ret
            exact ⟨rfl, G.trans HG.out hb6⟩
end
theorem lexerLists_any (A : Option Addr) (n c : Nat) (ts : List Tn) (W : World) (hA : TksW W A n c ts) (hE : Env W ∧ Tab4 W) : Calls Tryz.prog 9 #[.slice A n c] W fun e W' => e = .returned (.bool true) ∧ Below W.heap.size W W' := lexerLists_w hE.1 hE.2 hA
end Go.Proofs.YtmchiibbodllaaaGreatDoor
