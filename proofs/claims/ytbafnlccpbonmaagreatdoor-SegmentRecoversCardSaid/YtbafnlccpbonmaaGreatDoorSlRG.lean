/- How slices that come in are read (XSlRw, for the lexer seats). -/
import Derived.Test.YtbafnlccpbonmaaGreatDoorRows
import Derived.Test.YtbafnlccpbonmaaGreatDoorData
import Derived.Test.YtbafnlccpbonmaaGreatDoorGFrame
namespace Go.Proofs.YtbafnlccpbonmaaGreatDoor
set_option linter.unusedVariables false
set_option linter.unnecessarySimpa false
set_option linter.unusedSimpArgs false
open Go.ChangeShapes Go.WideShapes Go.ChangeAt Go.RowKit Go.Joins

theorem mapM_get {α β : Type} {f : α → Option β} : ∀ {l : List α} {ys : List β}, l.mapM f = some ys → ys.length = l.length ∧ ∀ (i : Nat) (y : β), ys[i]? = some y → ∃ x, l[i]? = some x ∧ f x = some y
  | [], ys, h => by
    simp at h
    subst h
    exact ⟨rfl, fun i y hy => by simp at hy⟩
  | a :: l, ys, h => by
    rw [List.mapM_cons] at h
    rcases ha : f a with _ | b
    · rw [ha] at h; cases h
    · rw [ha] at h
      rcases hl : l.mapM f with _ | zs
      · rw [hl] at h; cases h
      · rw [hl] at h
        cases h
        obtain ⟨h1, h2⟩ := mapM_get hl
        refine ⟨by simp [h1], fun i y hy => ?_⟩
        rcases i with _ | i
        · simp at hy; subst hy; exact ⟨a, rfl, ha⟩
        · exact h2 i y (by simpa using hy)
theorem add_at (b off i : Nat) : Addr.add ⟨b, off, none⟩ i = ⟨b, off + i, none⟩ := by unfold Addr.add; split <;> simp_all
theorem cells_get {W : World} {a : Addr} {n : Nat} {cs : List Value} (h : W.cells? 0 a n = some cs) : cs.length = n ∧ ∀ i u, cs[i]? = some u → W.cell? (a.add i) = some u := by
  unfold World.cells? at h
  rw [if_pos (Nat.zero_le _)] at h
  obtain ⟨h1, h2⟩ := mapM_get h
  rw [List.length_range] at h1
  refine ⟨h1, fun i u hu => ?_⟩
  obtain ⟨x, hx, hf⟩ := h2 i u hu
  have hi : i < n := by have := (List.getElem?_eq_some_iff.1 hu).1; omega
  rw [List.getElem?_range hi] at hx
  cases hx
  exact hf
abbrev Any' : Nat → Prop := fun _ => True
section
variable {H : Type} {enc : TypeId × Value → H} {P : Program} {W : World}
/-- A slice that came in: its cells, and how its elements are read. -/
theorem slice_rw {t e : TypeId} {sz fuel : Nat} {c : Value} {x : DataW H × List MemPlace} (ht : P.underlying t = some (.slice e)) (hsz : P.cellsOf e = sz) (h0 : 0 < sz)
    (h : DataW.trod enc P W 0 (fun _ => true) true fuel t [c] = some x) :
    ∃ A n cp xs, c = .slice A n cp ∧ Rw Any' W sz A n cp xs ∧ ((x.1 = .nil ∧ n = 0) ∨ ∃ m elems sp, fuel = m + 1 ∧ x.1 = .slice elems sp ∧ elems.length = n ∧
      ∀ j, j < n → ∃ y, elems[j]? = some y.1 ∧ DataW.trod enc P W 0 (fun _ => true) true m e ((xs.drop (j * sz)).take sz) = some y) := by
  rcases DataW.trod_slice ht h with ⟨hc, rfl⟩ | ⟨a, len, cap, elems, rest, m, rfl, hc, rfl, _, hl, hm, hlen, hel, _, _⟩
  · cases hc
    exact ⟨none, 0, 0, [], rfl, Rw.nil _ _ _, .inl ⟨rfl, rfl⟩⟩
  · cases hc
    rw [hsz] at hel
    have each : ∀ i, i < len → ∃ cs' y, W.cells? 0 (a.add (i * sz)) sz = some cs' ∧ elems[i]? = some y ∧ DataW.trod enc P W 0 (fun _ => true) true m e cs' = some y := by
      intro i hi
      have h1 := hel i hi
      rw [List.getElem?_eq_getElem (by omega)] at h1 ⊢
      rcases hcs : W.cells? 0 (a.add (i * sz)) sz with _ | cs'
      · rw [hcs] at h1; cases h1
      · rw [hcs] at h1
        exact ⟨cs', _, rfl, rfl, h1⟩
    rcases Nat.eq_zero_or_pos len with hz | hp
    · subst hz
      refine ⟨some a, 0, cap, [], rfl, ⟨hl, hm, by rw [Nat.zero_mul]; exact Sl.nil _ _, fun h => absurd h (by omega)⟩, .inr ⟨m, elems.map (·.1), rest.map (·.1), rfl, rfl, by simpa using hlen, fun j hj => absurd hj (by omega)⟩⟩
    · obtain ⟨b, off, spot⟩ := a
      have hs : spot = none := by
        obtain ⟨cs', y, hcs, _, _⟩ := each 0 hp
        obtain ⟨k1, k2⟩ := cells_get hcs
        have := k2 0 _ (List.getElem?_eq_getElem (by omega))
        simpa [Addr.add] using World.cell?_spot this
      subst hs
      have cell : ∀ i k, i < len → k < sz → ∃ u, W.cell? ⟨b, off + i * sz + k, none⟩ = some u := by
        intro i k hi hk
        obtain ⟨cs', y, hcs, _, _⟩ := each i hi
        obtain ⟨k1, k2⟩ := cells_get hcs
        have := k2 k _ (List.getElem?_eq_getElem (by omega))
        rw [add_at, add_at] at this
        exact ⟨_, this⟩
      have hxs : ∀ i, i < len → ∀ cs', W.cells? 0 (Addr.add ⟨b, off, none⟩ (i * sz)) sz = some cs' →
          ((((List.range (len * sz)).map fun k => (W.cell? ⟨b, off + k, none⟩).getD undef).drop (i * sz)).take sz) = cs' := by
        intro i hi cs' hcs
        obtain ⟨k1, k2⟩ := cells_get hcs
        have hb : (i + 1) * sz ≤ len * sz := Nat.mul_le_mul_right sz hi
        rw [Nat.add_mul, Nat.one_mul] at hb
        apply List.ext_getElem?
        intro k
        rw [List.getElem?_take]
        split
        · rename_i hk
          rw [List.getElem?_drop, List.getElem?_map, List.getElem?_range (by omega), List.getElem?_eq_getElem (by omega)]
          have := k2 k _ (List.getElem?_eq_getElem (by omega))
          rw [add_at, add_at, Nat.add_assoc] at this
          simp only [Option.map_some, this, Option.getD_some]
        · rw [List.getElem?_eq_none (by omega)]
      refine ⟨some ⟨b, off, none⟩, len, cap, (List.range (len * sz)).map fun k => (W.cell? ⟨b, off + k, none⟩).getD undef, rfl, ⟨hl, hm, ⟨by simp, fun _ => ⟨b, off, rfl, ?_, fun j u hu => ?_⟩⟩, fun _ _ _ => trivial⟩, .inr ⟨m, elems.map (·.1), rest.map (·.1), rfl, rfl, by simpa using hlen, fun j hj => ?_⟩⟩
      · obtain ⟨u, hu⟩ := cell 0 0 hp h0
        exact cell_lt hu
      · have hj : j < len * sz := by have := (List.getElem?_eq_some_iff.1 hu).1; simpa using this
        rw [List.getElem?_map, List.getElem?_range hj] at hu
        cases hu
        have e1 : j / sz < len := Nat.div_lt_of_lt_mul (by rw [Nat.mul_comm]; exact hj)
        obtain ⟨u, hu⟩ := cell (j / sz) (j % sz) e1 (Nat.mod_lt _ h0)
        have e2 : off + j / sz * sz + j % sz = off + j := by
          have := Nat.div_add_mod j sz
          rw [Nat.mul_comm] at this
          omega
        rw [e2] at hu
        show W.cell? ⟨b, off + j, none⟩ = some ((W.cell? ⟨b, off + j, none⟩).getD undef)
        rw [hu]
        rfl
      · obtain ⟨cs', y, hcs, hy, ht'⟩ := each j hj
        exact ⟨y, by rw [List.getElem?_map, hy]; rfl, by rw [hxs j hj cs' hcs]; exact ht'⟩
theorem all_mem {e : TypeId} : ∀ {l : List (DataW H)} {d : DataW H}, d ∈ l → ∀ n ∈ d.weights P e, n ∈ DataW.weightsAll P e l
  | [], _, h, _, _ => by cases h
  | a :: l, d, h, n, hn => by
    unfold DataW.weightsAll
    rcases List.mem_cons.1 h with rfl | h
    · exact List.mem_append.2 (.inl hn)
    · exact List.mem_append.2 (.inr (all_mem h n hn))
/-- The bytes of what came in are few. -/
def Light (P : Program) (t : TypeId) (d : DataW H) : Prop := ∀ n ∈ d.weights P t, n ≤ reachBytes
theorem Light.slice {t e : TypeId} {elems sp : List (DataW H)} (ht : P.underlying t = some (.slice e)) (h : Light P t (.slice elems sp)) : elems.length * P.bytesOf e ≤ reachBytes ∧ ∀ d ∈ elems, Light P e d := by
  have hw : (DataW.slice elems sp).weights P t = (elems.length + sp.length) * P.bytesOf e :: (DataW.weightsAll P e elems ++ DataW.weightsAll P e sp) := by
    show (match P.underlying t with | some (.slice e) => _ | _ => _) = _
    rw [ht]
  unfold Light at h
  rw [hw] at h
  refine ⟨Nat.le_trans (Nat.mul_le_mul_right _ (Nat.le_add_right _ _)) (h _ (List.mem_cons_self ..)), fun d hd n hn => h n (List.mem_cons_of_mem _ (List.mem_append.2 (.inl (all_mem hd n hn))))⟩
theorem Light.part {t : TypeId} {fs : Array Field} {parts : List (DataW H)} (ht : P.underlying t = some (.struct fs)) (h : Light P t (.agg parts)) {j : Nat} {f : Field} {d : DataW H} (hf : fs[j]? = some f) (hd : parts[j]? = some d) : Light P f.type d := by
  have hw : (DataW.agg parts).weights P t = DataW.weightsEach P (fs.toList.map (·.type)) parts := by
    show (match P.underlying t with | some (.struct fs) => _ | some (.array _ e) => _ | _ => _) = _
    rw [ht]
  intro n hn
  exact h n (by rw [hw]; exact DataW.weights_mem_each (j := j) (by simp [hf]) hd n hn)
end
section
variable {H : Type} {enc : TypeId × Value → H} {W : World}
abbrev Tr (enc : TypeId × Value → H) (W : World) (fuel : Nat) (t : TypeId) (cs : List Value) (x : DataW H × List MemPlace) : Prop := DataW.trod enc Tryz.prog W 0 (fun _ => true) true fuel t cs = some x
theorem reach_le : reachBytes ≤ 140737488355328 := Nat.le_of_lt (by have := reachBytes_lt; have e : (2 : Nat) ^ 47 = 140737488355328 := by decide
                                                                    omega)
theorem list2 {α : Type} {l : List α} (h : l.length = 2) : ∃ a b, l = [a, b] := by
  match l, h with
  | [a, b], _ => exact ⟨a, b, rfl⟩
theorem list4 {α : Type} {l : List α} (h : l.length = 4) : ∃ a b c d, l = [a, b, c, d] := by
  match l, h with
  | [a, b, c, d], _ => exact ⟨a, b, c, d, rfl⟩
theorem list5 {α : Type} {l : List α} (h : l.length = 5) : ∃ a b c d e, l = [a, b, c, d, e] := by
  match l, h with
  | [a, b, c, d, e], _ => exact ⟨a, b, c, d, e, rfl⟩
theorem list6 {α : Type} {l : List α} (h : l.length = 6) : ∃ a b c d e f, l = [a, b, c, d, e, f] := by
  match l, h with
  | [a, b, c, d, e, f], _ => exact ⟨a, b, c, d, e, f, rfl⟩
theorem list7 {α : Type} {l : List α} (h : l.length = 7) : ∃ a b c d e f g, l = [a, b, c, d, e, f, g] := by
  match l, h with
  | [a, b, c, d, e, f, g], _ => exact ⟨a, b, c, d, e, f, g, rfl⟩
theorem list11 {α : Type} {l : List α} (h : l.length = 11) : ∃ a b c d e f g i j k m, l = [a, b, c, d, e, f, g, i, j, k, m] := by
  match l, h with
  | [a, b, c, d, e, f, g, i, j, k, m], _ => exact ⟨a, b, c, d, e, f, g, i, j, k, m, rfl⟩
end
theorem choose_list {α : Type} {p : Nat → α → Prop} : ∀ (n : Nat), (∀ j, j < n → ∃ a, p j a) → ∃ l : List α, l.length = n ∧ ∀ j a, l[j]? = some a → p j a
  | 0, _ => ⟨[], rfl, fun j a h => by simp at h⟩
  | n + 1, h => by
    obtain ⟨l, hl, hp⟩ := choose_list n fun j hj => h j (by omega)
    obtain ⟨a, ha⟩ := h n (by omega)
    refine ⟨l ++ [a], by simp [hl], fun j x hx => ?_⟩
    rcases Nat.lt_or_ge j l.length with hj | hj
    · rw [List.getElem?_append_left hj] at hx
      exact hp j x hx
    · have hjn : j = n := by
        have := (List.getElem?_eq_some_iff.1 hx).1
        simp at this
        omega
      subst hjn
      rw [List.getElem?_append_right hj, hl, Nat.sub_self] at hx
      cases hx
      exact ha
end Go.Proofs.YtbafnlccpbonmaaGreatDoor
