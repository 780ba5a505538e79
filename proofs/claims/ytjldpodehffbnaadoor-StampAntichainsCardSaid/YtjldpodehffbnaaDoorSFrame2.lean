/- How a list of stamps that comes in is read. -/
import Derived.Test.YtjldpodehffbnaaDoorFrame
import Derived.Test.YtjldpodehffbnaaDoorSo8
import Derived.SizedLaws
namespace Go.Proofs.YtjldpodehffbnaaDoor
set_option linter.unusedVariables false
set_option linter.unnecessarySimpa false
set_option linter.unusedSimpArgs false
open Go.ChangeShapes Go.WideShapes Go.ChangeAt Go.RowKit Go.Joins

theorem Tryd.cells22 : Tryd.prog.cellsOf 22 = 1 := by kernel_rfl
theorem Tryd.bytesInt : Tryd.prog.bytesOf 3 = 8 := by kernel_rfl
theorem mapM_get {α β : Type} {f : α → Option β} : ∀ {l : List α} {ys : List β}, l.mapM f = some ys → ys.length = l.length ∧ ∀ (i : Nat) (y : β), ys[i]? = some y → ∃ x, l[i]? = some x ∧ f x = some y
  | [], ys, h => by
    simp at h
    subst h
    exact ⟨rfl, fun i y hy => by simp at hy⟩
  | a :: l, ys, h => by
    rw [List.mapM_cons] at h
    rcases ha : f a with _ | b
    · rw [ha] at h; cases h
    · rw [ha] at h
      rcases hl : l.mapM f with _ | zs
      · rw [hl] at h; cases h
      · rw [hl] at h
        cases h
        obtain ⟨h1, h2⟩ := mapM_get hl
        refine ⟨by simp [h1], fun i y hy => ?_⟩
        rcases i with _ | i
        · simp at hy; subst hy; exact ⟨a, rfl, ha⟩
        · exact h2 i y (by simpa using hy)
theorem add_at (b off i : Nat) : Addr.add ⟨b, off, none⟩ i = ⟨b, off + i, none⟩ := by unfold Addr.add; split <;> simp_all
theorem cells_get {W : World} {a : Addr} {n : Nat} {cs : List Value} (h : W.cells? 0 a n = some cs) : cs.length = n ∧ ∀ i u, cs[i]? = some u → W.cell? (a.add i) = some u := by
  unfold World.cells? at h
  rw [if_pos (Nat.zero_le _)] at h
  obtain ⟨h1, h2⟩ := mapM_get h
  rw [List.length_range] at h1
  refine ⟨h1, fun i u hu => ?_⟩
  obtain ⟨x, hx, hf⟩ := h2 i u hu
  have hi : i < n := by have := (List.getElem?_eq_some_iff.1 hu).1; omega
  rw [List.getElem?_range hi] at hx
  cases hx
  exact hf
abbrev Any' : Nat → Prop := fun _ => True
section
variable {H : Type} {enc : TypeId × Value → H} {P : Program} {W : World}
/-- A slice that came in: its cells, and how its elements are read. -/
theorem slice_rw {t e : TypeId} {sz fuel : Nat} {c : Value} {x : DataW H × List MemPlace} (ht : P.underlying t = some (.slice e)) (hsz : P.cellsOf e = sz) (h0 : 0 < sz)
    (h : DataW.trod enc P W 0 (fun _ => true) true fuel t [c] = some x) :
    ∃ A n cp xs, c = .slice A n cp ∧ Rw Any' W sz A n cp xs ∧ ((x.1 = .nil ∧ n = 0) ∨ ∃ m elems sp, fuel = m + 1 ∧ x.1 = .slice elems sp ∧ elems.length = n ∧
      ∀ j, j < n → ∃ y, elems[j]? = some y.1 ∧ DataW.trod enc P W 0 (fun _ => true) true m e ((xs.drop (j * sz)).take sz) = some y) := by
  rcases DataW.trod_slice ht h with ⟨hc, rfl⟩ | ⟨a, len, cap, elems, rest, m, rfl, hc, rfl, _, hl, hm, hlen, hel, _, _⟩
  · cases hc
    exact ⟨none, 0, 0, [], rfl, Rw.nil _ _ _, .inl ⟨rfl, rfl⟩⟩
  · cases hc
    rw [hsz] at hel
    have each : ∀ i, i < len → ∃ cs' y, W.cells? 0 (a.add (i * sz)) sz = some cs' ∧ elems[i]? = some y ∧ DataW.trod enc P W 0 (fun _ => true) true m e cs' = some y := by
      intro i hi
      have h1 := hel i hi
      rw [List.getElem?_eq_getElem (by omega)] at h1 ⊢
      rcases hcs : W.cells? 0 (a.add (i * sz)) sz with _ | cs'
      · rw [hcs] at h1; cases h1
      · rw [hcs] at h1
        exact ⟨cs', _, rfl, rfl, h1⟩
    rcases Nat.eq_zero_or_pos len with hz | hp
    · subst hz
      refine ⟨some a, 0, cap, [], rfl, ⟨hl, hm, by rw [Nat.zero_mul]; exact Sl.nil _ _, fun h => absurd h (by omega)⟩, .inr ⟨m, elems.map (·.1), rest.map (·.1), rfl, rfl, by simpa using hlen, fun j hj => absurd hj (by omega)⟩⟩
    · obtain ⟨b, off, spot⟩ := a
      have hs : spot = none := by
        obtain ⟨cs', y, hcs, _, _⟩ := each 0 hp
        obtain ⟨k1, k2⟩ := cells_get hcs
        have := k2 0 _ (List.getElem?_eq_getElem (by omega))
        simpa [Addr.add] using World.cell?_spot this
      subst hs
      have cell : ∀ i k, i < len → k < sz → ∃ u, W.cell? ⟨b, off + i * sz + k, none⟩ = some u := by
        intro i k hi hk
        obtain ⟨cs', y, hcs, _, _⟩ := each i hi
        obtain ⟨k1, k2⟩ := cells_get hcs
        have := k2 k _ (List.getElem?_eq_getElem (by omega))
        rw [add_at, add_at] at this
        exact ⟨_, this⟩
      have hxs : ∀ i, i < len → ∀ cs', W.cells? 0 (Addr.add ⟨b, off, none⟩ (i * sz)) sz = some cs' →
          ((((List.range (len * sz)).map fun k => (W.cell? ⟨b, off + k, none⟩).getD undef).drop (i * sz)).take sz) = cs' := by
        intro i hi cs' hcs
        obtain ⟨k1, k2⟩ := cells_get hcs
        have hb : (i + 1) * sz ≤ len * sz := Nat.mul_le_mul_right sz hi
        rw [Nat.add_mul, Nat.one_mul] at hb
        apply List.ext_getElem?
        intro k
        rw [List.getElem?_take]
        split
        · rename_i hk
          rw [List.getElem?_drop, List.getElem?_map, List.getElem?_range (by omega), List.getElem?_eq_getElem (by omega)]
          have := k2 k _ (List.getElem?_eq_getElem (by omega))
          rw [add_at, add_at, Nat.add_assoc] at this
          simp only [Option.map_some, this, Option.getD_some]
        · rw [List.getElem?_eq_none (by omega)]
      refine ⟨some ⟨b, off, none⟩, len, cap, (List.range (len * sz)).map fun k => (W.cell? ⟨b, off + k, none⟩).getD undef, rfl, ⟨hl, hm, ⟨by simp, fun _ => ⟨b, off, rfl, ?_, fun j u hu => ?_⟩⟩, fun _ _ _ => trivial⟩, .inr ⟨m, elems.map (·.1), rest.map (·.1), rfl, rfl, by simpa using hlen, fun j hj => ?_⟩⟩
      · obtain ⟨u, hu⟩ := cell 0 0 hp h0
        exact cell_lt hu
      · have hj : j < len * sz := by have := (List.getElem?_eq_some_iff.1 hu).1; simpa using this
        rw [List.getElem?_map, List.getElem?_range hj] at hu
        cases hu
        have e1 : j / sz < len := Nat.div_lt_of_lt_mul (by rw [Nat.mul_comm]; exact hj)
        obtain ⟨u, hu⟩ := cell (j / sz) (j % sz) e1 (Nat.mod_lt _ h0)
        have e2 : off + j / sz * sz + j % sz = off + j := by
          have := Nat.div_add_mod j sz
          rw [Nat.mul_comm] at this
          omega
        rw [e2] at hu
        show W.cell? ⟨b, off + j, none⟩ = some ((W.cell? ⟨b, off + j, none⟩).getD undef)
        rw [hu]
        rfl
      · obtain ⟨cs', y, hcs, hy, ht'⟩ := each j hj
        exact ⟨y, by rw [List.getElem?_map, hy]; rfl, by rw [hxs j hj cs' hcs]; exact ht'⟩
theorem all_mem {e : TypeId} : ∀ {l : List (DataW H)} {d : DataW H}, d ∈ l → ∀ n ∈ d.weights P e, n ∈ DataW.weightsAll P e l
  | [], _, h, _, _ => by cases h
  | a :: l, d, h, n, hn => by
    unfold DataW.weightsAll
    rcases List.mem_cons.1 h with rfl | h
    · exact List.mem_append.2 (.inl hn)
    · exact List.mem_append.2 (.inr (all_mem h n hn))
/-- The bytes of what came in are few. -/
def Light (P : Program) (t : TypeId) (d : DataW H) : Prop := ∀ n ∈ d.weights P t, n ≤ reachBytes
theorem Light.slice {t e : TypeId} {elems sp : List (DataW H)} (ht : P.underlying t = some (.slice e)) (h : Light P t (.slice elems sp)) : elems.length * P.bytesOf e ≤ reachBytes ∧ ∀ d ∈ elems, Light P e d := by
  have hw : (DataW.slice elems sp).weights P t = (elems.length + sp.length) * P.bytesOf e :: (DataW.weightsAll P e elems ++ DataW.weightsAll P e sp) := by
    show (match P.underlying t with | some (.slice e) => _ | _ => _) = _
    rw [ht]
  unfold Light at h
  rw [hw] at h
  refine ⟨Nat.le_trans (Nat.mul_le_mul_right _ (Nat.le_add_right _ _)) (h _ (List.mem_cons_self ..)), fun d hd n hn => h n (List.mem_cons_of_mem _ (List.mem_append.2 (.inl (all_mem hd n hn))))⟩
theorem Light.part {t : TypeId} {fs : Array Field} {parts : List (DataW H)} (ht : P.underlying t = some (.struct fs)) (h : Light P t (.agg parts)) {j : Nat} {f : Field} {d : DataW H} (hf : fs[j]? = some f) (hd : parts[j]? = some d) : Light P f.type d := by
  have hw : (DataW.agg parts).weights P t = DataW.weightsEach P (fs.toList.map (·.type)) parts := by
    show (match P.underlying t with | some (.struct fs) => _ | some (.array _ e) => _ | _ => _) = _
    rw [ht]
  intro n hn
  exact h n (by rw [hw]; exact DataW.weights_mem_each (j := j) (by simp [hf]) hd n hn)
end
section
variable {H : Type} {enc : TypeId × Value → H} {W : World}
abbrev Tr (enc : TypeId × Value → H) (W : World) (fuel : Nat) (t : TypeId) (cs : List Value) (x : DataW H × List MemPlace) : Prop := DataW.trod enc Tryd.prog W 0 (fun _ => true) true fuel t cs = some x
theorem reach_le : reachBytes ≤ 140737488355328 := Nat.le_of_lt (by have := reachBytes_lt; have e : (2 : Nat) ^ 47 = 140737488355328 := by decide
                                                                    omega)
theorem list2 {α : Type} {l : List α} (h : l.length = 2) : ∃ a b, l = [a, b] := by
  match l, h with
  | [a, b], _ => exact ⟨a, b, rfl⟩
theorem int_of {fuel : Nat} {c : Value} {x : DataW H × List MemPlace} (h : Tr enc W fuel 3 [c] x) : ∃ n, c = .int .i64 n := by
  obtain ⟨n, e, _, _⟩ := DataW.trod_int Tryd.underlying3 h
  cases e
  exact ⟨n, rfl⟩
theorem path_of {fuel : Nat} {c : Value} {x : DataW H × List MemPlace} (h : Tr enc W fuel 22 [c] x) (hw : Light Tryd.prog 22 x.1) : ∃ A n cp p, c = .slice A n cp ∧ PathIs Any' W A n cp p := by
  obtain ⟨A, n, cp, xs, rfl, hr, hx⟩ := slice_rw Tryd.underlying22 Tryd.cells3 (by decide) h
  have hl := hr.2.2.1.1
  rw [Nat.mul_one] at hl
  rcases hx with ⟨_, rfl⟩ | ⟨m, elems, sp, _, he, hlen, hel⟩
  · obtain rfl : xs = [] := List.eq_nil_of_length_eq_zero hl
    exact ⟨A, 0, cp, [], rfl, hr, by decide⟩
  · rw [he] at hw
    have hb := (hw.slice Tryd.underlying22).1
    rw [hlen, Tryd.bytesInt] at hb
    have hxs : xs = i64s (xs.map intOf) := by
      apply List.ext_getElem?
      intro j
      rcases Nat.lt_or_ge j n with hj | hj
      · obtain ⟨y, _, hy⟩ := hel j hj
        rw [Nat.mul_one] at hy
        have e1 : (xs.drop j).take 1 = [xs[j]] := by
          rw [List.drop_eq_getElem_cons (by omega), List.take_succ_cons, List.take_zero]
        rw [e1] at hy
        obtain ⟨z, hz⟩ := int_of hy
        simp [List.getElem?_eq_getElem (show j < xs.length by omega), hz, intOf]
      · rw [List.getElem?_eq_none (by omega), List.getElem?_eq_none (by simp; omega)]
    refine ⟨A, n, cp, xs.map intOf, rfl, ?_, Nat.le_trans hb reach_le⟩
    rw [← hxs]
    exact hr
theorem stamp_of {fuel : Nat} {a b : Value} {x : DataW H × List MemPlace} (h : Tr enc W fuel 24 [a, b] x) (hw : Light Tryd.prog 24 x.1) : ∃ e A n c p, a = .int .i64 e ∧ b = .slice A n c ∧ PathIs Any' W A n c p := by
  obtain ⟨xs, k, rfl, rfl, hl, hlen, hf⟩ := DataW.trod_struct Tryd.underlying24 h
  obtain ⟨y0, y1, rfl⟩ := list2 (show xs.length = 2 from hlen)
  · skip
    have g0 : Tr enc W k 3 ((([a, b] : List Value).drop 0).take (Tryd.prog.cellsOf 3)) y0 := hf 0 _ rfl
    rw [Tryd.cells3] at g0
    have g1 : Tr enc W k 22 ((([a, b] : List Value).drop 1).take (Tryd.prog.cellsOf 22)) y1 := hf 1 _ rfl
    rw [Tryd.cells22] at g1
    obtain ⟨e, rfl⟩ := int_of g0
    obtain ⟨A, n, c, p, rfl, hp⟩ := path_of g1 (hw.part Tryd.underlying24 (j := 1) rfl rfl)
    exact ⟨e, A, n, c, p, rfl, rfl, hp⟩
theorem choose_list {α : Type} {p : Nat → α → Prop} : ∀ (n : Nat), (∀ j, j < n → ∃ a, p j a) → ∃ l : List α, l.length = n ∧ ∀ j a, l[j]? = some a → p j a
  | 0, _ => ⟨[], rfl, fun j a h => by simp at h⟩
  | n + 1, h => by
    obtain ⟨l, hl, hp⟩ := choose_list n fun j hj => h j (by omega)
    obtain ⟨a, ha⟩ := h n (by omega)
    refine ⟨l ++ [a], by simp [hl], fun j x hx => ?_⟩
    rcases Nat.lt_or_ge j l.length with hj | hj
    · rw [List.getElem?_append_left hj] at hx
      exact hp j x hx
    · have hjn : j = n := by
        have := (List.getElem?_eq_some_iff.1 hx).1
        simp at this
        omega
      subst hjn
      rw [List.getElem?_append_right hj, hl, Nat.sub_self] at hx
      cases hx
      exact ha
set_option maxRecDepth 200000 in
theorem open_stamps {v : Value} {d : DataW H} {p : List MemPlace} {base : Nat} (hv : Value.okWide Tryd.prog W .any base 45 v)
    (h : DataW.Trod enc Tryd.prog W 0 (fun _ => true) true 45 v d p) (hw : Light Tryd.prog 45 d) : ∃ A n c l, v = .slice A n c ∧ StL Any' W A n c l := by
  obtain ⟨a0, len, cap, rfl⟩ := okWide_slice Tryd.underlying45 hv
  obtain ⟨fuel, hf⟩ := h
  obtain ⟨A, n, c, xs, he, hr, hx⟩ := slice_rw Tryd.underlying45 Tryd.cells24 (by decide) hf
  have each : ∀ j, j < n → ∃ o : Int × List Int, ∃ A' n' c', (xs.drop (j * 2)).take 2 = [.int .i64 o.1, .slice A' n' c'] ∧ PathIs Any' W A' n' c' o.2 := by
    intro j hj
    rcases hx with ⟨_, rfl⟩ | ⟨m, elems, sp, _, hd, _, hel⟩
    · omega
    · obtain ⟨y, hy1, hy2⟩ := hel j hj
      have hd' : d = .slice elems sp := hd
      rw [hd'] at hw
      have wy : Light Tryd.prog 24 y.1 := (hw.slice Tryd.underlying45).2 _ (List.mem_of_getElem? hy1)
      have hlen : ((xs.drop (j * 2)).take 2).length = 2 := by
        have h1 : (j + 1) * 2 ≤ n * 2 := Nat.mul_le_mul_right 2 hj
        have h2 := hr.2.2.1.1
        rw [List.length_take, List.length_drop]
        omega
      obtain ⟨a, b, hab⟩ := list2 hlen
      rw [hab] at hy2 ⊢
      obtain ⟨e, A', n', c', p', rfl, rfl, hp⟩ := stamp_of hy2 wy
      exact ⟨(e, p'), A', n', c', rfl, hp⟩
  obtain ⟨l, hl, hp⟩ := choose_list n each
  exact ⟨A, n, c, l, he, xs, hr, hl, fun q e p hq => hp q (e, p) hq⟩
end
end Go.Proofs.YtjldpodehffbnaaDoor
