/- A row that the law owns and that may begin anywhere in its block (a list that is cut at its front): append onto it. Nothing here walks a program. -/
import Derived.Test.YtjldpodehffbnaaItem2
import Derived.Deep.AppendSrc
namespace Go.Proofs.Ytjldpodehffbnaa
set_option linter.unusedVariables false
set_option linter.unnecessarySimpa false
set_option linter.unusedSimpArgs false
open Go.RowKit

/-- The slice's cells, and its room, in one block from base on. -/
def OwnO (w : World) (base size : Nat) (A : Option Addr) (n c : Nat) (xs : List Value) : Prop :=
  n ≤ c ∧ c ≤ maxLen ∧ xs.length = n * size ∧ ((A = none ∧ n = 0 ∧ c = 0) ∨ ∃ g off, A = some ⟨g, off, none⟩ ∧ base ≤ g ∧ g < w.heap.size ∧
    (∀ k, k < c * size → (w.cell? ⟨g, off + k, none⟩).isSome = true ∧ w.frozen? ⟨g, off + k, none⟩ = false) ∧ ∀ (j : Nat) (u : Value), xs[j]? = some u → w.cell? ⟨g, off + j, none⟩ = some u)
theorem OwnO.nil (w : World) (base size : Nat) : OwnO w base size none 0 0 [] := ⟨Nat.le_refl _, Nat.zero_le _, by simp, .inl ⟨rfl, rfl, rfl⟩⟩
theorem OwnO.block {w w' : World} {base size : Nat} {A : Option Addr} {n c : Nat} {xs : List Value} (h : OwnO w base size A n c xs) (hs : w.heap.size ≤ w'.heap.size) (hb : ∀ ad, A = some ad → w'.heap[ad.block]? = w.heap[ad.block]?) : OwnO w' base size A n c xs := by
  obtain ⟨h1, h2, h3, h4⟩ := h
  refine ⟨h1, h2, h3, ?_⟩
  rcases h4 with h4 | ⟨g, off, rfl, hg, hl, hr, hc⟩
  · exact .inl h4
  · have hbb := hb _ rfl
    dsimp only at hbb
    refine .inr ⟨g, off, rfl, hg, Nat.lt_of_lt_of_le hl hs, fun k hk => ?_, fun j u hu => ?_⟩
    · have := hr k hk
      unfold World.cell? World.frozen? at this ⊢
      simp only at this ⊢
      rw [hbb]
      exact this
    · have := hc j u hu
      unfold World.cell? at this ⊢
      simp only at this ⊢
      rw [hbb]
      exact this
/-- The list without its first element. -/
theorem OwnO.tail {w : World} {base size : Nat} {g off : Nat} {n c : Nat} {xs : List Value} (h : OwnO w base size (some ⟨g, off, none⟩) (n + 1) (c + 1) xs) : OwnO w base size (some ⟨g, off + size, none⟩) n c (xs.drop size) := by
  obtain ⟨h1, h2, h3, h4⟩ := h
  refine ⟨by omega, by omega, by rw [List.length_drop, h3, Nat.add_mul, Nat.one_mul]; omega, ?_⟩
  rcases h4 with ⟨h4, _⟩ | ⟨g', off', he, hg, hl, hr, hc⟩
  · cases h4
  · cases he
    refine .inr ⟨g, off + size, rfl, hg, hl, fun k hk => ?_, fun j u hu => ?_⟩
    · have := hr (size + k) (by rw [Nat.add_mul, Nat.one_mul]; omega)
      rwa [← Nat.add_assoc] at this
    · rw [List.getElem?_drop] at hu
      have := hc (size + j) u hu
      rwa [← Nat.add_assoc] at this
section
variable {P : Program}
/-- One element more, out of a fresh block. -/
theorem run_appO (w : World) (base : Nat) (t ty e : TypeId) (i : TypeInfo) (z : Value) (size bytes : Nat) (ht : P.underlying t = some (.slice e)) (hi : P.info? e = some i) (hz : i.zero = some z)
    (hsize : i.size = size) (hby : i.bytes = bytes) (hzs : z.cells.size = size) (A : Option Addr) (n c : Nat) (xs : List Value) (hown : OwnO w base size A n c xs)
    (B cB : Nat) (news : List Value) (hl : news.length = size) (hn : ∀ (j : Nat) (u : Value), news[j]? = some u → w.cell? ⟨B, j, none⟩ = some u) (h1 : ∀ u ∈ news, u.oneCell' = true)
    (h63 : n + 1 ≤ maxLen) (hbytes : (n + 1) * bytes ≤ 140737488355328) (hbase : base ≤ w.heap.size) :
    ∃ A' c' w', (Builtin.append_ #[t, t] ty #[.slice A n c, .slice (some ⟨B, 0, none⟩) 1 cB]).run P w = .ok (.slice A' (n + 1) c') w' ∧ OwnO w' base size A' (n + 1) c' (xs ++ news) ∧ w.grownBy w' (A.map (·.block)) ∧
      (A'.map (·.block) = A.map (·.block) ∨ A'.map (·.block) = some w.heap.size) := by
  subst hsize hby
  obtain ⟨o1, o2, o3, o4⟩ := hown
  have hsrc : Src P i.size t (.slice (some ⟨B, 0, none⟩) 1 cB) 1 news w := Src.ofSlice w ht ⟨B, 0, none⟩ 1 cB news (by rw [Nat.one_mul]; exact hl) (fun j u hu => by rw [addr_add]; exact hn j u hu) h1
  have hlen : (xs ++ news).length = (n + 1) * i.size := by rw [List.length_append, o3, hl, Nat.add_mul, Nat.one_mul]
  by_cases hroom : n + 1 ≤ c
  · rcases o4 with ⟨_, rfl, rfl⟩ | ⟨g, off, rfl, hg, hgl, hr, hc⟩
    · omega
    · have hnc : (n + 1) * i.size ≤ c * i.size := Nat.mul_le_mul_right _ hroom
      rw [Nat.add_mul, Nat.one_mul] at hnc
      have hin : ∀ j, j < news.length → (w.cell? ⟨g, off + n * i.size + j, none⟩).isSome = true ∧ w.frozen? ⟨g, off + n * i.size + j, none⟩ = false := fun j hj => by
        have := hr (n * i.size + j) (by omega)
        rwa [← Nat.add_assoc] at this
      have hrun := run_append_room_src (P := P) w t t ty e i ht hi g off n c _ 1 news hsrc hroom (fun j hj => (hin j hj).1) (fun j hj => (hin j hj).2)
      refine ⟨_, _, _, hrun, ⟨hroom, o2, hlen, .inr ⟨g, off, rfl, hg, ?_, fun k hk => ⟨?_, ?_⟩, fun j u hu => ?_⟩⟩, ?_, .inl rfl⟩
      · exact Nat.lt_of_lt_of_le hgl (Below.setCells' (Nat.zero_le _) news _ w (Below.refl 0 w)).size
      · rcases Nat.lt_or_ge k (n * i.size) with hk1 | hk1
        · rw [World.cell?_setCells_out g news _ w _ (fun _ _ => .inl (by simp; omega))]
          exact (hr k hk).1
        · rcases Nat.lt_or_ge k (n * i.size + news.length) with hk2 | hk2
          · have := World.cell?_setCells_in g news (off + n * i.size) w (fun j hj => (hin j hj).1) (k - n * i.size) (by omega)
            rw [show off + n * i.size + (k - n * i.size) = off + k by omega] at this
            rw [this]
            rfl
          · rw [World.cell?_setCells_out g news _ w _ (fun _ _ => .inr (by simp; omega))]
            exact (hr k hk).1
      · rw [World.frozen?_setCells]
        exact (hr k hk).2
      · rcases Nat.lt_or_ge j xs.length with hj | hj
        · rw [List.getElem?_append_left hj] at hu
          rw [World.cell?_setCells_out g news _ w _ (fun _ _ => .inl (by simp; omega))]
          exact hc j u hu
        · rw [List.getElem?_append_right hj] at hu
          have hj2 := (List.getElem?_eq_some_iff.1 hu).1
          have := World.cell?_setCells_in g news (off + n * i.size) w (fun j hj => (hin j hj).1) (j - xs.length) hj2
          rw [show off + n * i.size + (j - xs.length) = off + j by omega] at this
          rw [this, ← hu, List.getElem?_eq_getElem hj2]
      · have hb := Below.setCells' (Nat.zero_le _) news (off + n * i.size) w (B := g) (Below.refl 0 w)
        exact ⟨hb.os, hb.tape, hb.output, hb.size, fun k hk hne => (Keeps.setCells (ok := fun x => x ≠ g) (fun h => h rfl) news (off + n * i.size) w (Keeps.refl _ _)).2 k (fun e => hne (by rw [e]; rfl)) hk⟩
  · have hg : c < n + 1 := by omega
    have hold : (Builtin.firstCells i.size n (.slice A n c)).run P w.drew = .ok xs.toArray w.drew := by
      rcases o4 with ⟨rfl, rfl, rfl⟩ | ⟨g, off, rfl, _, _, _, hc⟩
      · have : xs = [] := List.eq_nil_of_length_eq_zero (by simpa using o3)
        subst this
        exact run_firstCells_none w.drew i.size 0 0 0
      · exact run_firstCells_some w.drew i.size n ⟨g, off, none⟩ n c xs o3 (fun j u hu => by
          have eA : Addr.add ⟨g, off, none⟩ j = ⟨g, off + j, none⟩ := by unfold Addr.add; split <;> simp_all
          rw [eA]
          exact hc j u hu)
    have hfit : Builtin.nextslicecap (n + 1) c * i.bytes ≤ 281474976710656 := by
      have h2 := Nat.mul_le_mul_right i.bytes (nextslicecap_le hg)
      rw [Nat.mul_assoc] at h2
      omega
    have hsmall : ((n + 1 : Nat) : Int) ≤ 9223372036854775807 := by unfold maxLen at h63; omega
    have hrun := run_append_grow_src (P := P) w t t ty e i z ht hi hz A n c xs hold _ 1 news hsrc hg hsmall hfit
    have hge := grownCap_ge w (n + 1) c e
    have hcm := grownCap_le_maxLen w (n + 1) c e h63
    have hsz : ((xs ++ news).toArray ++ Builtin.zeroCells z.cells (grownCap w (n + 1) c e - (n + 1))).size = grownCap w (n + 1) c e * i.size := by
      rw [Array.size_append, List.size_toArray, hlen, size_zeroCells, hzs, ← Nat.add_mul]
      congr 1
      omega
    refine ⟨_, _, _, hrun, ⟨hge, hcm, hlen, .inr ⟨w.heap.size, 0, rfl, hbase, by simp, fun k hk => ⟨?_, ?_⟩, fun j u hu => ?_⟩⟩, ⟨rfl, rfl, rfl, by simp, fun k hk _ => Below.heap_alloc w.drew _ k hk⟩, .inr rfl⟩
    · have e1 := heap_alloc_new w.drew (.cells ((xs ++ news).toArray ++ Builtin.zeroCells z.cells (grownCap w (n + 1) c e - (n + 1))) e)
      rw [Nat.zero_add]
      unfold World.cell?
      have e2 : w.drew.heap.size = w.heap.size := rfl
      rw [e2] at e1
      simp only [e1]
      rw [Array.getElem?_eq_getElem (by rw [hsz]; exact hk)]
      rfl
    · have e1 := heap_alloc_new w.drew (.cells ((xs ++ news).toArray ++ Builtin.zeroCells z.cells (grownCap w (n + 1) c e - (n + 1))) e)
      have e2 : w.drew.heap.size = w.heap.size := rfl
      rw [e2] at e1
      unfold World.frozen?
      simp only [e1]
      simp
    · have e1 := heap_alloc_new w.drew (.cells ((xs ++ news).toArray ++ Builtin.zeroCells z.cells (grownCap w (n + 1) c e - (n + 1))) e)
      have e2 : w.drew.heap.size = w.heap.size := rfl
      rw [e2] at e1
      have hj := (List.getElem?_eq_some_iff.1 hu).1
      rw [Nat.zero_add]
      unfold World.cell?
      simp only [e1]
      rw [Array.getElem?_append_left (by simpa using hj)]
      simpa using hu
/-- .. as an operation of a region. -/
theorem step_appO {ops : Array Oper} {o : Oper} {a : Act} {w : World} {K : Act → World → Prop} {Q : Exit → Act → World → Prop} {E : Prop} (hgd : o.guard = none) (s x : Operand) (t : TypeId)
    (ho : o.op = .call { callee := .builtin .append, args := #[s, x], argTypes := #[t, t] })
    (base : Nat) (e : TypeId) (i : TypeInfo) (z : Value) (size bytes : Nat) (ht : P.underlying t = some (.slice e)) (hi : P.info? e = some i) (hz : i.zero = some z)
    (hsize : i.size = size) (hby : i.bytes = bytes) (hzs : z.cells.size = size) (A : Option Addr) (n c : Nat) (xs : List Value) (hs : a.eval s = .slice A n c) (hown : OwnO w base size A n c xs)
    (B cB : Nat) (news : List Value) (hx : a.eval x = .slice (some ⟨B, 0, none⟩) 1 cB) (hl : news.length = size) (hn : ∀ (j : Nat) (u : Value), news[j]? = some u → w.cell? ⟨B, j, none⟩ = some u) (h1 : ∀ u ∈ news, u.oneCell' = true)
    (h63 : n + 1 ≤ maxLen) (hbytes : (n + 1) * bytes ≤ 140737488355328) (hbase : base ≤ w.heap.size)
    (h : ∀ A' c' w', OwnO w' base size A' (n + 1) c' (xs ++ news) → w.grownBy w' (A.map (·.block)) → (A'.map (·.block) = A.map (·.block) ∨ A'.map (·.block) = some w.heap.size) → K (a.put o.dst (.slice A' (n + 1) c')) w') :
    if Region.wanted o (yielded ops a.tmps) = true then Oper.wp P o a w K Q else E := by
  have hw : Region.wanted o (yielded ops a.tmps) = true := by simp [Region.wanted, hgd]
  rw [if_pos hw]
  obtain ⟨A', c', w', hrun, h2, h3, h4⟩ := run_appO (P := P) w base t o.type e i z size bytes ht hi hz hsize hby hzs A n c xs hown B cB news hl hn h1 h63 hbytes hbase
  unfold Oper.wp execOp
  simp only [ho, resolve, invoke, builtin, Sem.run_bind, Sem.run_pure, Result.andThen_ok, List.map_toArray, List.map_cons, List.map_nil, hs, hx, hrun]
  exact h A' c' w' h2 h3 h4
theorem wpList_appO {ops : Array Oper} {rest : List Oper} {o : Oper} {a : Act} {w : World} {Q : Exit → Act → World → Prop} (hgd : o.guard = none) (s x : Operand) (t : TypeId)
    (ho : o.op = .call { callee := .builtin .append, args := #[s, x], argTypes := #[t, t] })
    (base : Nat) (e : TypeId) (i : TypeInfo) (z : Value) (size bytes : Nat) (ht : P.underlying t = some (.slice e)) (hi : P.info? e = some i) (hz : i.zero = some z)
    (hsize : i.size = size) (hby : i.bytes = bytes) (hzs : z.cells.size = size) (A : Option Addr) (n c : Nat) (xs : List Value) (hs : a.eval s = .slice A n c) (hown : OwnO w base size A n c xs)
    (B cB : Nat) (news : List Value) (hx : a.eval x = .slice (some ⟨B, 0, none⟩) 1 cB) (hl : news.length = size) (hn : ∀ (j : Nat) (u : Value), news[j]? = some u → w.cell? ⟨B, j, none⟩ = some u) (h1 : ∀ u ∈ news, u.oneCell' = true)
    (h63 : n + 1 ≤ maxLen) (hbytes : (n + 1) * bytes ≤ 140737488355328) (hbase : base ≤ w.heap.size)
    (h : ∀ A' c' w', OwnO w' base size A' (n + 1) c' (xs ++ news) → w.grownBy w' (A.map (·.block)) → (A'.map (·.block) = A.map (·.block) ∨ A'.map (·.block) = some w.heap.size) → wpList P ops Q rest (a.put o.dst (.slice A' (n + 1) c')) w') : wpList P ops Q (o :: rest) a w :=
  wpList_plain hgd fun K hK => by
    have := step_appO (P := P) (ops := ops) (o := o) (a := a) (w := w) (K := K) (Q := Q) (E := True) hgd s x t ho base e i z size bytes ht hi hz hsize hby hzs A n c xs hs hown B cB news hx hl hn h1 h63 hbytes hbase fun A' c' w' h2 h3 h4 => hK _ _ (h A' c' w' h2 h3 h4)
    rwa [if_pos (by simp [Region.wanted, hgd])] at this
end
end Go.Proofs.Ytjldpodehffbnaa
