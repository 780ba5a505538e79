/- segment: a log in memory -/
import Derived.Test.YtbafnlccpbonmaaGreatDoorData
import Derived.Deep.AppendSrc
import Derived.Test.YtbafnlccpbonmaaGreatDoorGMd
import Derived.Test.YtbafnlccpbonmaaGreatDoorGLib
import Derived.Test.YtbafnlccpbonmaaGreatDoorOrd
import Derived.Test.YtbafnlccpbonmaaGreatDoorTree
import Derived.Test.YtbafnlccpbonmaaGreatDoorOrdD
import Derived.Test.YtbafnlccpbonmaaGreatDoorProg
import Derived.Test.YtbafnlccpbonmaaGreatDoorGMi
import Derived.Test.YtbafnlccpbonmaaGreatDoorGMb
import Derived.Test.YtbafnlccpbonmaaGreatDoorGMc
import Derived.Deep.Cut
namespace Go.Proofs.YtbafnlccpbonmaaGreatDoor
set_option linter.unusedVariables false
set_option linter.unnecessarySimpa false
set_option linter.unusedSimpArgs false
open Go.RowKit

theorem Keeps.setCells {ok : Nat → Prop} {a : World} {B : Nat} (hB : ¬ ok B) : ∀ (vs : List Value) (o : Nat) (w : World), Keeps ok a w → Keeps ok a (w.setCells B o vs)
  | [], _, _, h => h
  | v :: vs, o, w, h => Keeps.setCells hB vs (o + 1) _ (h.setCell (p := ⟨B, o, none⟩) hB v)
theorem Below.setCells' {L B : Nat} {a : World} (hB : L ≤ B) : ∀ (vs : List Value) (o : Nat) (w : World), Below L a w → Below L a (w.setCells B o vs)
  | [], _, _, h => h
  | v :: vs, o, w, h => Below.setCells' hB vs (o + 1) _ (h.setCell (p := ⟨B, o, none⟩) hB v)
/-- The slice's cells, and its room, in one block from base on. -/
def OwnO (w : World) (base size : Nat) (A : Option Addr) (n c : Nat) (xs : List Value) : Prop :=
  n ≤ c ∧ c ≤ maxLen ∧ xs.length = n * size ∧ ((A = none ∧ n = 0 ∧ c = 0) ∨ ∃ g off, A = some ⟨g, off, none⟩ ∧ base ≤ g ∧ g < w.heap.size ∧
    (∀ k, k < c * size → (w.cell? ⟨g, off + k, none⟩).isSome = true ∧ w.frozen? ⟨g, off + k, none⟩ = false) ∧ ∀ (j : Nat) (u : Value), xs[j]? = some u → w.cell? ⟨g, off + j, none⟩ = some u)
theorem OwnO.nil (w : World) (base size : Nat) : OwnO w base size none 0 0 [] := ⟨Nat.le_refl _, Nat.zero_le _, by simp, .inl ⟨rfl, rfl, rfl⟩⟩
theorem OwnO.block {w w' : World} {base size : Nat} {A : Option Addr} {n c : Nat} {xs : List Value} (h : OwnO w base size A n c xs) (hs : w.heap.size ≤ w'.heap.size) (hb : ∀ ad, A = some ad → w'.heap[ad.block]? = w.heap[ad.block]?) : OwnO w' base size A n c xs := by
  obtain ⟨h1, h2, h3, h4⟩ := h
  refine ⟨h1, h2, h3, ?_⟩
  rcases h4 with h4 | ⟨g, off, rfl, hg, hl, hr, hc⟩
  · exact .inl h4
  · have hbb := hb _ rfl
    dsimp only at hbb
    refine .inr ⟨g, off, rfl, hg, Nat.lt_of_lt_of_le hl hs, fun k hk => ?_, fun j u hu => ?_⟩
    · have := hr k hk
      unfold World.cell? World.frozen? at this ⊢
      simp only at this ⊢
      rw [hbb]
      exact this
    · have := hc j u hu
      unfold World.cell? at this ⊢
      simp only at this ⊢
      rw [hbb]
      exact this
/-- The list without its first element. -/
theorem OwnO.tail {w : World} {base size : Nat} {g off : Nat} {n c : Nat} {xs : List Value} (h : OwnO w base size (some ⟨g, off, none⟩) (n + 1) (c + 1) xs) : OwnO w base size (some ⟨g, off + size, none⟩) n c (xs.drop size) := by
  obtain ⟨h1, h2, h3, h4⟩ := h
  refine ⟨by omega, by omega, by rw [List.length_drop, h3, Nat.add_mul, Nat.one_mul]; omega, ?_⟩
  rcases h4 with ⟨h4, _⟩ | ⟨g', off', he, hg, hl, hr, hc⟩
  · cases h4
  · cases he
    refine .inr ⟨g, off + size, rfl, hg, hl, fun k hk => ?_, fun j u hu => ?_⟩
    · have := hr (size + k) (by rw [Nat.add_mul, Nat.one_mul]; omega)
      rwa [← Nat.add_assoc] at this
    · rw [List.getElem?_drop] at hu
      have := hc (size + j) u hu
      rwa [← Nat.add_assoc] at this
section
variable {P : Program}
/-- One element more, out of a fresh block. -/
theorem run_appO (w : World) (base : Nat) (t ty e : TypeId) (i : TypeInfo) (z : Value) (size bytes : Nat) (ht : P.underlying t = some (.slice e)) (hi : P.info? e = some i) (hz : i.zero = some z)
    (hsize : i.size = size) (hby : i.bytes = bytes) (hzs : z.cells.size = size) (A : Option Addr) (n c : Nat) (xs : List Value) (hown : OwnO w base size A n c xs)
    (B cB : Nat) (news : List Value) (hl : news.length = size) (hn : ∀ (j : Nat) (u : Value), news[j]? = some u → w.cell? ⟨B, j, none⟩ = some u) (h1 : ∀ u ∈ news, u.oneCell' = true)
    (h63 : n + 1 ≤ maxLen) (hbytes : (n + 1) * bytes ≤ 140737488355328) (hbase : base ≤ w.heap.size) :
    ∃ A' c' w', (Builtin.append_ #[t, t] ty #[.slice A n c, .slice (some ⟨B, 0, none⟩) 1 cB]).run P w = .ok (.slice A' (n + 1) c') w' ∧ OwnO w' base size A' (n + 1) c' (xs ++ news) ∧ w.grownBy w' (A.map (·.block)) ∧
      (A'.map (·.block) = A.map (·.block) ∨ A'.map (·.block) = some w.heap.size) := by
  subst hsize hby
  obtain ⟨o1, o2, o3, o4⟩ := hown
  have hsrc : Src P i.size t (.slice (some ⟨B, 0, none⟩) 1 cB) 1 news w := Src.ofSlice w ht ⟨B, 0, none⟩ 1 cB news (by rw [Nat.one_mul]; exact hl) (fun j u hu => by rw [addr_add]; exact hn j u hu) h1
  have hlen : (xs ++ news).length = (n + 1) * i.size := by rw [List.length_append, o3, hl, Nat.add_mul, Nat.one_mul]
  by_cases hroom : n + 1 ≤ c
  · rcases o4 with ⟨_, rfl, rfl⟩ | ⟨g, off, rfl, hg, hgl, hr, hc⟩
    · omega
    · have hnc : (n + 1) * i.size ≤ c * i.size := Nat.mul_le_mul_right _ hroom
      rw [Nat.add_mul, Nat.one_mul] at hnc
      have hin : ∀ j, j < news.length → (w.cell? ⟨g, off + n * i.size + j, none⟩).isSome = true ∧ w.frozen? ⟨g, off + n * i.size + j, none⟩ = false := fun j hj => by
        have := hr (n * i.size + j) (by omega)
        rwa [← Nat.add_assoc] at this
      have hrun := run_append_room_src (P := P) w t t ty e i ht hi g off n c _ 1 news hsrc hroom (fun j hj => (hin j hj).1) (fun j hj => (hin j hj).2)
      refine ⟨_, _, _, hrun, ⟨hroom, o2, hlen, .inr ⟨g, off, rfl, hg, ?_, fun k hk => ⟨?_, ?_⟩, fun j u hu => ?_⟩⟩, ?_, .inl rfl⟩
      · exact Nat.lt_of_lt_of_le hgl (Below.setCells' (Nat.zero_le _) news _ w (Below.refl 0 w)).size
      · rcases Nat.lt_or_ge k (n * i.size) with hk1 | hk1
        · rw [World.cell?_setCells_out g news _ w _ (fun _ _ => .inl (by simp; omega))]
          exact (hr k hk).1
        · rcases Nat.lt_or_ge k (n * i.size + news.length) with hk2 | hk2
          · have := World.cell?_setCells_in g news (off + n * i.size) w (fun j hj => (hin j hj).1) (k - n * i.size) (by omega)
            rw [show off + n * i.size + (k - n * i.size) = off + k by omega] at this
            rw [this]
            rfl
          · rw [World.cell?_setCells_out g news _ w _ (fun _ _ => .inr (by simp; omega))]
            exact (hr k hk).1
      · rw [World.frozen?_setCells]
        exact (hr k hk).2
      · rcases Nat.lt_or_ge j xs.length with hj | hj
        · rw [List.getElem?_append_left hj] at hu
          rw [World.cell?_setCells_out g news _ w _ (fun _ _ => .inl (by simp; omega))]
          exact hc j u hu
        · rw [List.getElem?_append_right hj] at hu
          have hj2 := (List.getElem?_eq_some_iff.1 hu).1
          have := World.cell?_setCells_in g news (off + n * i.size) w (fun j hj => (hin j hj).1) (j - xs.length) hj2
          rw [show off + n * i.size + (j - xs.length) = off + j by omega] at this
          rw [this, ← hu, List.getElem?_eq_getElem hj2]
      · have hb := Below.setCells' (Nat.zero_le _) news (off + n * i.size) w (B := g) (Below.refl 0 w)
        exact ⟨hb.os, hb.tape, hb.output, hb.size, fun k hk hne => (Keeps.setCells (ok := fun x => x ≠ g) (fun h => h rfl) news (off + n * i.size) w (Keeps.refl _ _)).2 k (fun e => hne (by rw [e]; rfl)) hk⟩
  · have hg : c < n + 1 := by omega
    have hold : (Builtin.firstCells i.size n (.slice A n c)).run P w.drew = .ok xs.toArray w.drew := by
      rcases o4 with ⟨rfl, rfl, rfl⟩ | ⟨g, off, rfl, _, _, _, hc⟩
      · have : xs = [] := List.eq_nil_of_length_eq_zero (by simpa using o3)
        subst this
        exact run_firstCells_none w.drew i.size 0 0 0
      · exact run_firstCells_some w.drew i.size n ⟨g, off, none⟩ n c xs o3 (fun j u hu => by
          have eA : Addr.add ⟨g, off, none⟩ j = ⟨g, off + j, none⟩ := by unfold Addr.add; split <;> simp_all
          rw [eA]
          exact hc j u hu)
    have hfit : Builtin.nextslicecap (n + 1) c * i.bytes ≤ 281474976710656 := by
      have h2 := Nat.mul_le_mul_right i.bytes (nextslicecap_le hg)
      rw [Nat.mul_assoc] at h2
      omega
    have hsmall : ((n + 1 : Nat) : Int) ≤ 9223372036854775807 := by unfold maxLen at h63; omega
    have hrun := run_append_grow_src (P := P) w t t ty e i z ht hi hz A n c xs hold _ 1 news hsrc hg hsmall hfit
    have hge := grownCap_ge w (n + 1) c e
    have hcm := grownCap_le_maxLen w (n + 1) c e h63
    have hsz : ((xs ++ news).toArray ++ Builtin.zeroCells z.cells (grownCap w (n + 1) c e - (n + 1))).size = grownCap w (n + 1) c e * i.size := by
      rw [Array.size_append, List.size_toArray, hlen, size_zeroCells, hzs, ← Nat.add_mul]
      congr 1
      omega
    refine ⟨_, _, _, hrun, ⟨hge, hcm, hlen, .inr ⟨w.heap.size, 0, rfl, hbase, by simp, fun k hk => ⟨?_, ?_⟩, fun j u hu => ?_⟩⟩, ⟨rfl, rfl, rfl, by simp, fun k hk _ => Below.heap_alloc w.drew _ k hk⟩, .inr rfl⟩
    · have e1 := heap_alloc_new w.drew (.cells ((xs ++ news).toArray ++ Builtin.zeroCells z.cells (grownCap w (n + 1) c e - (n + 1))) e)
      rw [Nat.zero_add]
      unfold World.cell?
      have e2 : w.drew.heap.size = w.heap.size := rfl
      rw [e2] at e1
      simp only [e1]
      rw [Array.getElem?_eq_getElem (by rw [hsz]; exact hk)]
      rfl
    · have e1 := heap_alloc_new w.drew (.cells ((xs ++ news).toArray ++ Builtin.zeroCells z.cells (grownCap w (n + 1) c e - (n + 1))) e)
      have e2 : w.drew.heap.size = w.heap.size := rfl
      rw [e2] at e1
      unfold World.frozen?
      simp only [e1]
      simp
    · have e1 := heap_alloc_new w.drew (.cells ((xs ++ news).toArray ++ Builtin.zeroCells z.cells (grownCap w (n + 1) c e - (n + 1))) e)
      have e2 : w.drew.heap.size = w.heap.size := rfl
      rw [e2] at e1
      have hj := (List.getElem?_eq_some_iff.1 hu).1
      rw [Nat.zero_add]
      unfold World.cell?
      simp only [e1]
      rw [Array.getElem?_append_left (by simpa using hj)]
      simpa using hu
/-- .. as an operation of a region. -/
theorem step_appO {ops : Array Oper} {o : Oper} {a : Act} {w : World} {K : Act → World → Prop} {Q : Exit → Act → World → Prop} {E : Prop} (hgd : o.guard = none) (s x : Operand) (t : TypeId)
    (ho : o.op = .call { callee := .builtin .append, args := #[s, x], argTypes := #[t, t] })
    (base : Nat) (e : TypeId) (i : TypeInfo) (z : Value) (size bytes : Nat) (ht : P.underlying t = some (.slice e)) (hi : P.info? e = some i) (hz : i.zero = some z)
    (hsize : i.size = size) (hby : i.bytes = bytes) (hzs : z.cells.size = size) (A : Option Addr) (n c : Nat) (xs : List Value) (hs : a.eval s = .slice A n c) (hown : OwnO w base size A n c xs)
    (B cB : Nat) (news : List Value) (hx : a.eval x = .slice (some ⟨B, 0, none⟩) 1 cB) (hl : news.length = size) (hn : ∀ (j : Nat) (u : Value), news[j]? = some u → w.cell? ⟨B, j, none⟩ = some u) (h1 : ∀ u ∈ news, u.oneCell' = true)
    (h63 : n + 1 ≤ maxLen) (hbytes : (n + 1) * bytes ≤ 140737488355328) (hbase : base ≤ w.heap.size)
    (h : ∀ A' c' w', OwnO w' base size A' (n + 1) c' (xs ++ news) → w.grownBy w' (A.map (·.block)) → (A'.map (·.block) = A.map (·.block) ∨ A'.map (·.block) = some w.heap.size) → K (a.put o.dst (.slice A' (n + 1) c')) w') :
    if Region.wanted o (yielded ops a.tmps) = true then Oper.wp P o a w K Q else E := by
  have hw : Region.wanted o (yielded ops a.tmps) = true := by simp [Region.wanted, hgd]
  rw [if_pos hw]
  obtain ⟨A', c', w', hrun, h2, h3, h4⟩ := run_appO (P := P) w base t o.type e i z size bytes ht hi hz hsize hby hzs A n c xs hown B cB news hl hn h1 h63 hbytes hbase
  unfold Oper.wp execOp
  simp only [ho, resolve, invoke, builtin, Sem.run_bind, Sem.run_pure, Result.andThen_ok, List.map_toArray, List.map_cons, List.map_nil, hs, hx, hrun]
  exact h A' c' w' h2 h3 h4
theorem wpList_appO {ops : Array Oper} {rest : List Oper} {o : Oper} {a : Act} {w : World} {Q : Exit → Act → World → Prop} (hgd : o.guard = none) (s x : Operand) (t : TypeId)
    (ho : o.op = .call { callee := .builtin .append, args := #[s, x], argTypes := #[t, t] })
    (base : Nat) (e : TypeId) (i : TypeInfo) (z : Value) (size bytes : Nat) (ht : P.underlying t = some (.slice e)) (hi : P.info? e = some i) (hz : i.zero = some z)
    (hsize : i.size = size) (hby : i.bytes = bytes) (hzs : z.cells.size = size) (A : Option Addr) (n c : Nat) (xs : List Value) (hs : a.eval s = .slice A n c) (hown : OwnO w base size A n c xs)
    (B cB : Nat) (news : List Value) (hx : a.eval x = .slice (some ⟨B, 0, none⟩) 1 cB) (hl : news.length = size) (hn : ∀ (j : Nat) (u : Value), news[j]? = some u → w.cell? ⟨B, j, none⟩ = some u) (h1 : ∀ u ∈ news, u.oneCell' = true)
    (h63 : n + 1 ≤ maxLen) (hbytes : (n + 1) * bytes ≤ 140737488355328) (hbase : base ≤ w.heap.size)
    (h : ∀ A' c' w', OwnO w' base size A' (n + 1) c' (xs ++ news) → w.grownBy w' (A.map (·.block)) → (A'.map (·.block) = A.map (·.block) ∨ A'.map (·.block) = some w.heap.size) → wpList P ops Q rest (a.put o.dst (.slice A' (n + 1) c')) w') : wpList P ops Q (o :: rest) a w :=
  wpList_plain hgd fun K hK => by
    have := step_appO (P := P) (ops := ops) (o := o) (a := a) (w := w) (K := K) (Q := Q) (E := True) hgd s x t ho base e i z size bytes ht hi hz hsize hby hzs A n c xs hs hown B cB news hx hl hn h1 h63 hbytes hbase fun A' c' w' h2 h3 h4 => hK _ _ (h A' c' w' h2 h3 h4)
    rwa [if_pos (by simp [Region.wanted, hgd])] at this
end
end Go.Proofs.YtbafnlccpbonmaaGreatDoor

namespace Go.Proofs.YtbafnlccpbonmaaGreatDoor
set_option linter.unusedVariables false
set_option linter.unnecessarySimpa false
set_option linter.unusedSimpArgs false
open Go.RowKit

/-- A segment's record in memory. -/
structure PR where
  first : Nat
  A : Option Addr
  cap : Nat
  offs : List Nat
def PR.pt (r : PR) : Pt := ⟨r.first, r.offs⟩
def PR.val (r : PR) : Value := .slice r.A r.offs.length r.cap
def PR.cells (r : PR) : List Value := [.int .i64 (r.first : Int), r.val]
def PR.has (r : PR) (x : Nat) : Prop := ∃ ad, r.A = some ad ∧ ad.block = x
def rowP (rs : List PR) : List Value := rs.flatMap PR.cells
def natsC (l : List Nat) : List Value := l.map fun n => .int .i64 ((n : Nat) : Int)
theorem rowP_len : ∀ rs : List PR, (rowP rs).length = rs.length * 2
  | [] => rfl
  | r :: rs => by
    have := rowP_len rs
    unfold rowP at this ⊢
    rw [List.flatMap_cons, List.length_append, this, List.length_cons]
    show 2 + _ = _
    omega
theorem rowP_app (a b : List PR) : rowP (a ++ b) = rowP a ++ rowP b := by unfold rowP; rw [List.flatMap_append]
theorem rowP_get : ∀ (rs : List PR) (j k : Nat) (r : PR), rs[j]? = some r → k < 2 → (rowP rs)[j * 2 + k]? = r.cells[k]?
  | [], j, k, r, h, hk => by simp at h
  | x :: rs, 0, k, r, h, hk => by
    simp at h
    subst h
    unfold rowP
    rw [List.flatMap_cons, Nat.zero_mul, Nat.zero_add, List.getElem?_append_left (by show k < 2; exact hk)]
  | x :: rs, j + 1, k, r, h, hk => by
    have ih := rowP_get rs j k r (by simpa using h) hk
    unfold rowP at ih ⊢
    rw [List.flatMap_cons, List.getElem?_append_right (by show 2 ≤ _; omega), show x.cells.length = 2 from rfl, show (j + 1) * 2 + k - 2 = j * 2 + k by omega]
    exact ih
theorem rowP_set : ∀ (rs : List PR) (j : Nat) (r q : PR), rs[j]? = some r → q.first = r.first → (rowP rs).set (j * 2 + 1) q.val = rowP (rs.set j q)
  | [], j, r, q, h, _ => by simp at h
  | x :: rs, 0, r, q, h, e => by
    simp at h
    subst h
    unfold rowP
    rw [List.set_cons_zero, List.flatMap_cons, List.flatMap_cons]
    unfold PR.cells
    rw [e]
    rfl
  | x :: rs, j + 1, r, q, h, e => by
    have ih := rowP_set rs j r q (by simpa using h) e
    unfold rowP at ih ⊢
    rw [List.set_cons_succ, List.flatMap_cons, List.flatMap_cons, ← ih, List.set_append_right _ _ (by show 2 ≤ _; omega), show x.cells.length = 2 from rfl, show (j + 1) * 2 + 1 - 2 = j * 2 + 1 by omega]
structure LogR (w : World) (L d : Nat) (l : Lg) (P : Option Addr) (c : Nat) (rs : List PR) : Prop where
  box : Bx w L [.pointer (some ⟨d, 0, none⟩), .string (B l.name), .int .i64 l.limit, .slice P rs.length c, .int .i64 l.dur]
  row : OwnO w 0 2 P rs.length c (rowP rs)
  each : ∀ r ∈ rs, OwnO w 0 1 r.A r.offs.length r.cap (natsC r.offs)
  apart : rs.Pairwise fun r q => ∀ x, r.has x → ¬ q.has x
  out : ∀ r ∈ rs, ∀ x, r.has x → x ≠ L ∧ ∀ ad, P = some ad → ad.block ≠ x
  pl : ∀ ad, P = some ad → ad.block ≠ L
  eq : l.parts = rs.map PR.pt
def hasL (L : Nat) (P : Option Addr) (rs : List PR) (x : Nat) : Prop := x = L ∨ (∃ ad, P = some ad ∧ ad.block = x) ∨ ∃ r ∈ rs, r.has x
/-- The log at L, in the state l; its blocks are T. -/
def LogW (w : World) (L d : Nat) (T : Nat → Prop) (l : Lg) : Prop := ∃ P c rs, LogR w L d l P c rs ∧ ∀ x, T x ↔ hasL L P rs x
theorem OwnO.lt {w : World} {base size : Nat} {A : Option Addr} {n c : Nat} {xs : List Value} (h : OwnO w base size A n c xs) {ad : Addr} (ha : A = some ad) : ad.block < w.heap.size ∧ base ≤ ad.block := by
  rcases h.2.2.2 with ⟨h4, _⟩ | ⟨g, off, he, hg, hl, _⟩
  · rw [ha] at h4; cases h4
  · rw [ha] at he
    cases he
    exact ⟨hl, hg⟩
section
variable {w w' : World} {L d : Nat} {l l' : Lg} {P : Option Addr} {c : Nat} {rs : List PR} {S T : Nat → Prop} {s s' : Ds}
theorem LogR.lt (h : LogR w L d l P c rs) {x : Nat} (hx : hasL L P rs x) : x < w.heap.size := by
  rcases hx with rfl | ⟨ad, ha, rfl⟩ | ⟨r, hr, ad, ha, rfl⟩
  · exact h.box.lt
  · exact (h.row.lt ha).1
  · exact ((h.each r hr).lt ha).1
theorem LogR.keep (h : LogR w L d l P c rs) (hs : w.heap.size ≤ w'.heap.size) (hk : ∀ x, hasL L P rs x → w'.heap[x]? = w.heap[x]?) : LogR w' L d l P c rs :=
  ⟨h.box.block hs (hk _ (.inl rfl)), h.row.block hs fun ad ha => hk _ (.inr (.inl ⟨ad, ha, rfl⟩)), fun r hr => (h.each r hr).block hs fun ad ha => hk _ (.inr (.inr ⟨r, hr, ad, ha, rfl⟩)), h.apart, h.out, h.pl, h.eq⟩
theorem LogW.lt (h : LogW w L d T l) {x : Nat} (hx : T x) : x < w.heap.size := by
  obtain ⟨P, c, rs, h1, h2⟩ := h
  exact h1.lt ((h2 x).1 hx)
theorem LogW.keep (h : LogW w L d T l) (hs : w.heap.size ≤ w'.heap.size) (hk : ∀ x, T x → w'.heap[x]? = w.heap[x]?) : LogW w' L d T l := by
  obtain ⟨P, c, rs, h1, h2⟩ := h
  exact ⟨P, c, rs, h1.keep hs fun x hx => hk x ((h2 x).2 hx), h2⟩
theorem LogW.grow (h : LogW w L d T l) (hb : Below w.heap.size w w') : LogW w' L d T l := h.keep hb.size fun x hx => hb.block x (h.lt hx)
theorem LogW.other {S' : Nat → Prop} (h : LogW w L d T l) (hc : DChg S' w w') (hT : ∀ x, T x → ¬ S' x) : LogW w' L d T l := h.keep hc.size fun x hx => hc.2.2 x (hT x hx) (h.lt hx)
theorem LogW.hasL (h : LogW w L d T l) : T L := by
  obtain ⟨P, c, rs, h1, h2⟩ := h
  exact (h2 L).2 (.inl rfl)
/-- The log and its device, since the world w0 in which their blocks were T0 and S0. -/
structure LX (w0 : World) (S0 T0 : Nat → Prop) (w : World) (d L : Nat) (s : Ds) (l : Lg) : Prop where
  ex : ∃ S T, DevW w d S s ∧ LogW w L d T l ∧ (∀ x, S x → ¬ T x) ∧ (∀ x, S x → S0 x ∨ w0.heap.size ≤ x) ∧ (∀ x, T x → T0 x ∨ w0.heap.size ≤ x)
  chg : DChg (fun x => S0 x ∨ T0 x) w0 w
theorem LX.start (hD : DevW w d S s) (hL : LogW w L d T l) (hST : ∀ x, S x → ¬ T x) : LX w S T w d L s l := ⟨⟨S, T, hD, hL, hST, fun x hx => .inl hx, fun x hx => .inl hx⟩, DChg.refl _ _⟩
end
section
variable {w0 w w' : World} {S0 T0 : Nat → Prop} {L d : Nat} {l l' : Lg} {s s' : Ds}
theorem LX.grow (h : LX w0 S0 T0 w d L s l) (hb : Below w.heap.size w w') : LX w0 S0 T0 w' d L s l := by
  obtain ⟨⟨S, T, h1, h2, h3, h4, h5⟩, hc⟩ := h
  exact ⟨⟨S, T, h1.grow hb, h2.grow hb, h3, h4, h5⟩, hc.trans (DChg.of_below (S := fun _ => False) hb) fun x hx => absurd hx id⟩
theorem LX.dev {n : Nat} {a : Array Value} {r : Int × Ds} (h : LX w0 S0 T0 w d L s l) (hc : ∀ S, DevW w d S s → Calls Tryz.prog n a w (RetE d S r w)) : Calls Tryz.prog n a w fun e w' => e = .returned (.int .i64 r.1) ∧ LX w0 S0 T0 w' d L r.2 l := by
  obtain ⟨⟨S, T, h1, h2, h3, h4, h5⟩, hg⟩ := h
  refine (hc S h1).mono fun e w' hh => ⟨hh.1, ?_⟩
  obtain ⟨S', k1, k2, k3⟩ := hh.2
  have hsz := hg.size
  refine ⟨⟨S', T, k1, h2.other k3 fun x hx hs => h3 x hs hx, fun x hx ht => ?_, fun x hx => ?_, h5⟩, hg.trans (k3.mono fun x hx => hx) fun x hx => ?_⟩
  · rcases k2 x hx with h6 | h6
    · exact h3 x h6 ht
    · have := h2.lt ht
      omega
  · rcases k2 x hx with h6 | h6
    · exact h4 x h6
    · exact .inr (by omega)
  · rcases h4 x hx with h6 | h6
    · exact .inl (.inl h6)
    · exact .inr h6
/-- A call of the log's own. -/
theorem LX.call {n : Nat} {a : Array Value} {Q : Ending → Prop} (h : LX w0 S0 T0 w d L s l) (hc : ∀ S T, DevW w d S s → LogW w L d T l → (∀ x, S x → ¬ T x) → Calls Tryz.prog n a w fun e w' => Q e ∧ LX w S T w' d L s' l') :
    Calls Tryz.prog n a w fun e w' => Q e ∧ LX w0 S0 T0 w' d L s' l' := by
  obtain ⟨⟨S, T, h1, h2, h3, h4, h5⟩, hg⟩ := h
  refine (hc S T h1 h2 h3).mono fun e w' hh => ⟨hh.1, ?_⟩
  obtain ⟨⟨S', T', k1, k2, k3, k4, k5⟩, kc⟩ := hh.2
  have hsz := hg.size
  refine ⟨⟨S', T', k1, k2, k3, fun x hx => ?_, fun x hx => ?_⟩, hg.trans kc fun x hx => ?_⟩
  · rcases k4 x hx with h6 | h6
    · exact h4 x h6
    · exact .inr (by omega)
  · rcases k5 x hx with h6 | h6
    · exact h5 x h6
    · exact .inr (by omega)
  · rcases hx with hx | hx
    · rcases h4 x hx with h6 | h6
      · exact .inl (.inl h6)
      · exact .inr h6
    · rcases h5 x hx with h6 | h6
      · exact .inl (.inr h6)
      · exact .inr h6
theorem LX.box (h : LX w0 S0 T0 w d L s l) : ∃ P c rs, LogR w L d l P c rs := by
  obtain ⟨⟨S, T, h1, ⟨P, c, rs, h2, _⟩, _⟩, _⟩ := h
  exact ⟨P, c, rs, h2⟩
/-- What the log's own cells were changed to. -/
theorem LX.own (h : LX w0 S0 T0 w d L s l) (hk : ∀ T P c rs, LogR w L d l P c rs → (∀ x, T x ↔ hasL L P rs x) → ∃ P' c' rs', LogR w' L d l' P' c' rs' ∧ (∀ x, hasL L P' rs' x → T x ∨ w.heap.size ≤ x) ∧ DChg T w w') : LX w0 S0 T0 w' d L s l' := by
  obtain ⟨⟨S, T, h1, ⟨P, c, rs, h2, h2'⟩, h3, h4, h5⟩, hg⟩ := h
  obtain ⟨P', c', rs', k1, k2, k3⟩ := hk T P c rs h2 h2'
  have hsz := hg.size
  refine ⟨⟨S, _, h1.other k3 h3, ⟨P', c', rs', k1, fun x => Iff.rfl⟩, fun x hx ht => ?_, h4, fun x hx => ?_⟩, hg.trans k3 fun x hx => ?_⟩
  · rcases k2 x ht with h6 | h6
    · exact h3 x hx h6
    · have := h1.lt hx
      omega
  · rcases k2 x hx with h6 | h6
    · exact h5 x h6
    · exact .inr (by omega)
  · rcases h5 x hx with h6 | h6
    · exact .inl (.inr h6)
    · exact .inr h6
end
end Go.Proofs.YtbafnlccpbonmaaGreatDoor

namespace Go.Proofs.YtbafnlccpbonmaaGreatDoor
set_option linter.unusedVariables false
set_option linter.unnecessarySimpa false
set_option linter.unusedSimpArgs false
open Go.RowKit

theorem OwnO.ptr {w : World} {base size : Nat} {A : Option Addr} {n c : Nat} {xs : List Value} (h : OwnO w base size A n c xs) (hn : n ≠ 0) : ∃ g off, A = some ⟨g, off, none⟩ ∧ g < w.heap.size ∧ ∀ (j : Nat) (u : Value), xs[j]? = some u → w.cell? ⟨g, off + j, none⟩ = some u := by
  rcases h.2.2.2 with ⟨_, h4, _⟩ | ⟨g, off, he, _, hl, _, hc⟩
  · exact absurd h4 hn
  · exact ⟨g, off, he, hl, hc⟩
/-- A segment's numbers are small. -/
def Pt.Ok (p : Pt) : Prop := (1 ≤ p.first ∧ p.first ≤ 100000000) ∧ p.offs.length ≤ 100000001 ∧ p.offs ≠ [] ∧ ∀ o ∈ p.offs, o ≤ 1099511627776
theorem natsC_get {l : List Nat} {j v : Nat} (h : l[j]? = some v) : (natsC l)[j]? = some (.int .i64 (v : Int)) := by
  unfold natsC
  rw [List.getElem?_map, h]
  rfl
theorem last_get {l : List Nat} (h : l ≠ []) : l[l.length - 1]? = some (l.getLastD 0) := by
  rcases List.eq_nil_or_concat l with e | ⟨i, x, e⟩
  · exact absurd e h
  · subst e
    simp
set_option maxRecDepth 20000 in set_option maxHeartbeats 1000000 in
theorem psize_any (r : PR) (w : World) (ho : OwnO w 0 1 r.A r.offs.length r.cap (natsC r.offs)) (hp : r.pt.Ok) : Calls Tryz.prog 63 #[.agg #[.int .i64 (r.first : Int), r.val]] w fun e w' => e = .returned (.int .i64 (r.pt.size : Int)) ∧ Below w.heap.size w w' := by
  obtain ⟨p1, p2, p3, p4⟩ := hp
  obtain ⟨first, A, cap, offs⟩ := r
  unfold PR.pt at p1 p2 p3 p4
  unfold PR.val PR.pt Pt.size
  dsimp only at *
  have hlast := last_get p3
  have hpos : 0 < offs.length := List.length_pos_iff.2 p3
  obtain ⟨g, off, rfl, hg, hc⟩ := ho.ptr (by omega)
  obtain ⟨n, hn⟩ : ∃ n, offs.length = n := ⟨_, rfl⟩
  rw [hn] at hlast p2 hpos ⊢
  obtain ⟨q, hq⟩ : ∃ q, n - 1 = q := ⟨_, rfl⟩
  rw [hq] at hlast
  have c0 := hc _ _ (natsC_get hlast)
  obtain ⟨v, hv⟩ : ∃ v, offs.getLastD 0 = v := ⟨_, rfl⟩
  rw [hv] at c0 ⊢
  have lt := cell_lt c0
  have hw1 : IntKind.i64.wrap ((n : Int) - 1) = (q : Int) := by rw [IntWalk.i64_in _ (by omega)]; omega
  have hi : q < n := by omega
  have hi' : (q : Int) < (n : Int) := by omega
  clear ho p1 p2 p3 p4 hc hlast hn hv hpos hq
  go_enter Tryz.func63, Tryz.ntmps63
  go_wp2_with fail
  go_ret
  exact ⟨rfl, (G.refl w).alloc (Nat.le_refl _) _⟩
set_option maxRecDepth 20000 in set_option maxHeartbeats 1000000 in
theorem pbehind_any (r : PR) (w : World) (hp : r.pt.Ok) : Calls Tryz.prog 59 #[.agg #[.int .i64 (r.first : Int), r.val]] w fun e w' => e = .returned (.int .i64 r.pt.behind) ∧ Below w.heap.size w w' := by
  obtain ⟨p1, p2, p3, p4⟩ := hp
  obtain ⟨first, A, cap, offs⟩ := r
  unfold PR.pt at p1 p2 p3 p4
  unfold PR.val PR.pt Pt.behind
  dsimp only at *
  obtain ⟨n, hn⟩ : ∃ n, offs.length = n := ⟨_, rfl⟩
  rw [hn] at p2 ⊢
  have hw1 : IntKind.i64.wrap ((first : Int) + (n : Int)) = (first : Int) + (n : Int) := IntWalk.i64_in _ (by omega)
  have hw2 : IntKind.i64.wrap ((first : Int) + (n : Int) - 1) = (first : Int) + (n : Int) - 1 := IntWalk.i64_in _ (by omega)
  clear p1 p2 p3 p4 hn
  go_enter Tryz.func59, Tryz.ntmps59
  go_wp2_with fail
  go_ret
  exact ⟨rfl, (G.refl w).alloc (Nat.le_refl _) _⟩
end Go.Proofs.YtbafnlccpbonmaaGreatDoor

namespace Go.Proofs.YtbafnlccpbonmaaGreatDoor
set_option linter.unusedVariables false
set_option linter.unnecessarySimpa false
set_option linter.unusedSimpArgs false
open Go.RowKit

theorem Bx.c5 {w : World} {B : Nat} {a b c d e : Value} (x : Bx w B [a, b, c, d, e]) : w.cell? ⟨B, 0, none⟩ = some a ∧ w.cell? ⟨B, 1, none⟩ = some b ∧ w.cell? ⟨B, 2, none⟩ = some c ∧ w.cell? ⟨B, 3, none⟩ = some d ∧ w.cell? ⟨B, 4, none⟩ = some e :=
  ⟨(x.2 0 a rfl).1, (x.2 1 b rfl).1, (x.2 2 c rfl).1, (x.2 3 d rfl).1, (x.2 4 e rfl).1⟩
theorem Bx.f5 {w : World} {B : Nat} {a b c d e : Value} (x : Bx w B [a, b, c, d, e]) : w.frozen? ⟨B, 0, none⟩ = false ∧ w.frozen? ⟨B, 1, none⟩ = false ∧ w.frozen? ⟨B, 2, none⟩ = false ∧ w.frozen? ⟨B, 3, none⟩ = false ∧ w.frozen? ⟨B, 4, none⟩ = false :=
  ⟨(x.2 0 a rfl).2, (x.2 1 b rfl).2, (x.2 2 c rfl).2, (x.2 3 d rfl).2, (x.2 4 e rfl).2⟩
theorem snoc_cases {α : Type} (l : List α) : l = [] ∨ ∃ i x, l = i ++ [x] := by
  rcases List.eq_nil_or_concat l with e | ⟨i, x, e⟩
  · exact .inl e
  · exact .inr ⟨i, x, by rw [e, List.concat_eq_append]⟩
/-- The numbers of a log are small. -/
def Lg.Ok (l : Lg) : Prop := (∀ p ∈ l.parts, p.Ok) ∧ l.parts.length ≤ 100000000 ∧ 0 ≤ l.dur ∧ l.dur ≤ 100000000000 ∧ 64 ≤ l.limit ∧ l.limit ≤ 4194304
set_option maxRecDepth 20000 in set_option maxHeartbeats 1000000 in
theorem lgfile_any {w : World} {L : Nat} {nm : List UInt8} (h : w.cell? ⟨L, 1, none⟩ = some (.string (B nm))) (hp : Pow10 w) (n : Int) : Calls Tryz.prog 62 #[.pointer (some ⟨L, 0, none⟩), .int .i64 n] w fun e w' => e = .returned (.string (B (fileR nm n).1)) ∧ Below w.heap.size w w' := by
  have F := Lib.hid (file_any nm n w hp)
  have lt := cell_lt h
  obtain ⟨X, hX⟩ : ∃ X, fileR nm n = X := ⟨_, rfl⟩
  rw [hX] at F ⊢
  clear hX hp
  go_enter Tryz.func62, Tryz.ntmps62
  go_wp2_with fail
  go_at_call 19
  (with_reducible refine F.out.mono ?_)
  rintro e1 w1 ⟨rfl, hb1⟩
  go_wp2_with fail
  go_ret
  exact ⟨rfl, hb1⟩
section
variable {w : World} {L d : Nat} {l : Lg} {P : Option Addr} {c : Nat} {rs : List PR}
theorem LogR.file (h : LogR w L d l P c rs) (hp : Pow10 w) (n : Int) : Calls Tryz.prog 62 #[.pointer (some ⟨L, 0, none⟩), .int .i64 n] w fun e w' => e = .returned (.string (B (l.file n))) ∧ Below w.heap.size w w' := lgfile_any h.box.c5.2.1 hp n
/-- The cells of the k-th segment's record. -/
theorem LogR.cells (h : LogR w L d l P c rs) {k : Nat} {r : PR} (hr : rs[k]? = some r) : ∃ g off, P = some ⟨g, off, none⟩ ∧ g < w.heap.size ∧ w.cell? ⟨g, off + k * 2, none⟩ = some (.int .i64 (r.first : Int)) ∧ w.cell? ⟨g, off + k * 2 + 1, none⟩ = some r.val := by
  have hlt : k < rs.length := (List.getElem?_eq_some_iff.1 hr).1
  obtain ⟨g, off, rfl, hg, hc⟩ := h.row.ptr (by omega)
  refine ⟨g, off, rfl, hg, hc _ _ (by rw [show k * 2 = k * 2 + 0 by omega, rowP_get rs k 0 r hr (by decide)]; rfl), by rw [Nat.add_assoc]; exact hc _ _ (by rw [rowP_get rs k 1 r hr (by decide)]; rfl)⟩
set_option maxRecDepth 20000 in set_option maxHeartbeats 1000000 in
theorem LogR.First (h : LogR w L d l P c rs) : Calls Tryz.prog 40 #[.pointer (some ⟨L, 0, none⟩)] w fun e w' => e = .returned (.int .i64 l.frst) ∧ Below w.heap.size w w' := by
  obtain ⟨c0, c1, c2, c3, c4⟩ := h.box.c5
  have lt := h.box.lt
  have he := h.eq
  rcases rs with _ | ⟨r, rs⟩
  · rw [show l.frst = 1 by unfold Lg.frst; rw [he]; rfl]
    clear h he
    go_enter Tryz.func40, Tryz.ntmps40
    go_wp2_with fail
    go_ret
    exact ⟨rfl, G.refl w⟩
  · rw [show l.frst = (r.first : Int) by unfold Lg.frst; rw [he]; rfl]
    obtain ⟨g, off, rfl, hg, k0, k1⟩ := h.cells (k := 0) rfl
    rw [show off + 0 * 2 = off by omega] at k0
    obtain ⟨n, hn⟩ : ∃ n, (r :: rs).length = n := ⟨_, rfl⟩
    have h0 : 0 < n := by rw [← hn]; simp
    have h1 : ¬ (n : Int) = 0 := by omega
    rw [hn] at c3
    clear h he hn k1
    go_enter Tryz.func40, Tryz.ntmps40
    go_wp2_with fail
    go_ret
    exact ⟨rfl, G.refl w⟩
set_option maxRecDepth 20000 in set_option maxHeartbeats 1000000 in
theorem LogR.Last (h : LogR w L d l P c rs) (hok : l.Ok) : Calls Tryz.prog 33 #[.pointer (some ⟨L, 0, none⟩)] w fun e w' => e = .returned (.int .i64 l.last) ∧ Below w.heap.size w w' := by
  obtain ⟨c0, c1, c2, c3, c4⟩ := h.box.c5
  have lt := h.box.lt
  have he := h.eq
  rcases snoc_cases rs with e | ⟨qs, r, e⟩
  · subst e
    rw [show l.last = 0 by unfold Lg.last; rw [he]; rfl]
    clear h he
    go_enter Tryz.func33, Tryz.ntmps33
    go_wp2_with fail
    go_ret
    exact ⟨rfl, G.refl w⟩
  · subst e
    rw [show l.last = r.pt.behind - 1 by unfold Lg.last; rw [he]; simp]
    have hpk : r.pt.Ok := hok.1 _ (by rw [he]; simp)
    obtain ⟨g, off, rfl, hg, k0, k1⟩ := h.cells (k := qs.length) (r := r) (by simp)
    obtain ⟨q, hq⟩ : ∃ q, qs.length = q := ⟨_, rfl⟩
    obtain ⟨n, hn⟩ : ∃ n, (qs ++ [r]).length = n := ⟨_, rfl⟩
    have hqn : n = q + 1 := by rw [← hn, ← hq]; simp
    have hnl : n ≤ 100000000 := by
      have := hok.2.1
      rw [he, List.length_map, hn] at this
      exact this
    rw [hn] at c3
    rw [hq] at k0 k1
    have PB := Lib.hid (fun wx => pbehind_any r wx hpk)
    have h1 : ¬ (n : Int) = 0 := by omega
    have hw1 : IntKind.i64.wrap ((n : Int) - 1) = (q : Int) := by rw [IntWalk.i64_in _ (by omega)]; omega
    have h2 : q < n := by omega
    have h3 : (q : Int) < (n : Int) := by omega
    have hbb : IntKind.i64.wrap (r.pt.behind - 1) = r.pt.behind - 1 := IntWalk.i64_in _ (by
      obtain ⟨p1, p2, p3, p4⟩ := hpk
      unfold Pt.behind
      omega)
    clear h he hn hq hpk hok hqn
    go_enter Tryz.func33, Tryz.ntmps33
    go_wp2_with fail
    refine wp_region_ord [(0, 1), (1, 1), (2, 1), (3, 1), (4, 1), (5, 1), (6, 1), (7, 1), (8, 1), (9, 1), (10, 1), (11, 1), (12, 2), (13, 1), (14, 1)] [] 5 (by kernel_rfl) (by decide +kernel) ?_
    simp only [pickO, List.append_eq, List.cons_append, List.nil_append, List.getElem?_cons_succ, List.getElem?_cons_zero]
    intro w0 hG
    (repeat ((first | (with_reducible refine ord_q1 ?_) | (with_reducible refine ord_q0 ?_)); intro K hK; first | (refine Or.inr ⟨?_, ?_⟩; (focus (go_simp; first | done | (simp [undef]; done))); go_simp; (with_reducible refine hK _ ?_); clear hK K) | (refine Or.inl ⟨?_, ?_⟩; (focus (go_simp; done)); apply Exists.intro; refine And.intro ?_ ?_; (focus (first | (intro wq hq; obtain ⟨hcq, hfq⟩ := G.old hq; go_simp; (first | done | exact rfl); done) | (intro wq; go_simp; (first | done | exact rfl); done))); go_simp; (with_reducible refine hK _ ?_); clear hK K) | fail))
    (with_reducible refine ord_run ?_ hG)
    intro K hK
    go_simp
    go_at_call 59; (with_reducible refine (PB.out _).mono ?_); rintro e w2 ⟨rfl, hb1⟩
    replace hG := Grew.trans hG hb1
    (try dsimp only)
    (with_reducible refine hK _ _ hG ?_)
    clear hK K
    (repeat ((first | (with_reducible refine ord_q1 ?_) | (with_reducible refine ord_q0 ?_)); intro K hK; first | (refine Or.inr ⟨?_, ?_⟩; (focus (go_simp; first | done | (simp [undef]; done))); go_simp; (with_reducible refine hK _ ?_); clear hK K) | (refine Or.inl ⟨?_, ?_⟩; (focus (go_simp; done)); apply Exists.intro; refine And.intro ?_ ?_; (focus (first | (intro wq hq; obtain ⟨hcq, hfq⟩ := G.old hq; go_simp; (first | done | exact rfl); done) | (intro wq; go_simp; (first | done | exact rfl); done))); go_simp; (with_reducible refine hK _ ?_); clear hK K) | fail))
    (with_reducible refine ord_nil ?_)
    have hb := hG.b
    clear hG
    go_wp2_with fail
    go_ret
    exact ⟨rfl, hb⟩
end
end Go.Proofs.YtbafnlccpbonmaaGreatDoor

namespace Go.Proofs.YtbafnlccpbonmaaGreatDoor
set_option linter.unusedVariables false
set_option linter.unnecessarySimpa false
set_option linter.unusedSimpArgs false
open Go.RowKit

/-- The table of strconv.Itoa lies in no block of the device or the log. -/
structure EnvL (w0 : World) (S0 T0 : Nat → Prop) : Prop where
  pow : Pow10 w0
  s : ¬ S0 3
  t : ¬ T0 3
theorem file_len (nm : List UInt8) (n : Int) : (fileR nm n).1.length ≤ 41 := by
  unfold fileR
  split
  · simp
  · split
    · simp
    · rename_i h _
      have := name_len (by simpa using h)
      unfold fileL
      simp [digL_len]
      omega
theorem lfile_len (l : Lg) (n : Int) : (l.file n).length ≤ 41 := file_len _ _
section
variable {w0 w w' : World} {S0 T0 : Nat → Prop} {L d : Nat} {l l' : Lg} {s s' : Ds}
theorem LX.pow (hE : EnvL w0 S0 T0) (h : LX w0 S0 T0 w d L s l) : Pow10 w := by
  have lt := hE.pow.lt
  exact hE.pow.block (h.chg.2.2 _ (fun hh => by rcases hh with hh | hh; exact hE.s hh; exact hE.t hh) lt)
theorem LX.run {n : Nat} {a : Array Value} {Q : Ending → Prop} (h : LX w0 S0 T0 w d L s l) (hc : ∀ P c rs, LogR w L d l P c rs → Calls Tryz.prog n a w fun e w' => Q e ∧ Below w.heap.size w w') : Calls Tryz.prog n a w fun e w' => Q e ∧ LX w0 S0 T0 w' d L s l := by
  obtain ⟨P, c, rs, hL⟩ := h.box
  exact (hc P c rs hL).mono fun e w' hh => ⟨hh.1, h.grow hh.2⟩
theorem LX.dSync (h : LX w0 S0 T0 w d L s l) (nm : List UInt8) (hm : nm.length ≤ 41) : Calls Tryz.prog 75 #[.pointer (some ⟨d, 0, none⟩), .string (B nm)] w fun e w' => e = .returned (.int .i64 (syncD s nm).1) ∧ LX w0 S0 T0 w' d L (syncD s nm).2 l := by
  have := h.dev fun S hD => sync_any hD (B nm) (by rw [B_size]; unfold maxLen; omega)
  rw [B_list] at this
  exact this
theorem LX.dCreate (h : LX w0 S0 T0 w d L s l) (nm : List UInt8) (hm : nm.length ≤ 41) : Calls Tryz.prog 39 #[.pointer (some ⟨d, 0, none⟩), .string (B nm)] w fun e w' => e = .returned (.int .i64 (createD s nm).1) ∧ LX w0 S0 T0 w' d L (createD s nm).2 l := by
  have := h.dev fun S hD => create_any hD (B nm) (by rw [B_size]; unfold maxLen; omega)
  rw [B_list] at this
  exact this
theorem LX.dRemove (h : LX w0 S0 T0 w d L s l) (nm : List UInt8) (hm : nm.length ≤ 41) : Calls Tryz.prog 76 #[.pointer (some ⟨d, 0, none⟩), .string (B nm)] w fun e w' => e = .returned (.int .i64 (removeD s nm).1) ∧ LX w0 S0 T0 w' d L (removeD s nm).2 l := by
  have := h.dev fun S hD => remove_any hD (B nm) (by rw [B_size]; unfold maxLen; omega)
  rw [B_list] at this
  exact this
theorem LX.dAppend (h : LX w0 S0 T0 w d L s l) (ho : s.Ok) (nm t : List UInt8) (hm : nm.length ≤ 41) (ht : t.length ≤ 1099511627776) : Calls Tryz.prog 31 #[.pointer (some ⟨d, 0, none⟩), .string (B nm), .string (B t)] w fun e w' => e = .returned (.int .i64 (appendD s nm t).1) ∧ LX w0 S0 T0 w' d L (appendD s nm t).2 l := by
  have := h.dev fun S hD => append_any hD ho (B nm) (B t) (by rw [B_size]; unfold maxLen; omega) (by rw [B_size]; exact ht)
  rw [B_list, B_list] at this
  exact this
theorem LX.mLast (h : LX w0 S0 T0 w d L s l) (hok : l.Ok) : Calls Tryz.prog 33 #[.pointer (some ⟨L, 0, none⟩)] w fun e w' => e = .returned (.int .i64 l.last) ∧ LX w0 S0 T0 w' d L s l := h.run fun P c rs hL => hL.Last hok
theorem LX.mFirst (h : LX w0 S0 T0 w d L s l) : Calls Tryz.prog 40 #[.pointer (some ⟨L, 0, none⟩)] w fun e w' => e = .returned (.int .i64 l.frst) ∧ LX w0 S0 T0 w' d L s l := h.run fun P c rs hL => hL.First
theorem LX.mFile (hE : EnvL w0 S0 T0) (h : LX w0 S0 T0 w d L s l) (n : Int) : Calls Tryz.prog 62 #[.pointer (some ⟨L, 0, none⟩), .int .i64 n] w fun e w' => e = .returned (.string (B (l.file n))) ∧ LX w0 S0 T0 w' d L s l := h.run fun P c rs hL => hL.file (h.pow hE) n
theorem LX.setDur (h : LX w0 S0 T0 w d L s l) (v : Int) : LX w0 S0 T0 (w.setCell ⟨L, 4, none⟩ (.int .i64 v)) d L s { l with dur := v } := h.own fun T P c rs hL hT => by
  have hTL : T L := (hT L).2 (.inl rfl)
  have lt := hL.box.lt
  have hk : ∀ x, x ≠ L → (w.setCell ⟨L, 4, none⟩ (.int .i64 v)).heap[x]? = w.heap[x]? := fun x hx => Below.heap_setCell _ _ _ _ hx
  have hsz : w.heap.size ≤ (w.setCell ⟨L, 4, none⟩ (.int .i64 v)).heap.size := by simp [World.setCell]
  exact ⟨P, c, rs, ⟨hL.box.put rfl, hL.row.block hsz fun ad ha => hk _ (hL.pl ad ha), fun r hr => (hL.each r hr).block hsz fun ad ha => hk _ (hL.out r hr _ ⟨ad, ha, rfl⟩).1, hL.apart, hL.out, hL.pl, hL.eq⟩, fun x hx => .inl ((hT x).2 hx), (DChg.refl T w).setCell hTL _ _⟩
set_option maxRecDepth 20000 in set_option maxHeartbeats 2000000 in
theorem LX.Sync (hE : EnvL w0 S0 T0) (h : LX w0 S0 T0 w d L s l) (hok : l.Ok) : Calls Tryz.prog 34 #[.pointer (some ⟨L, 0, none⟩)] w fun e w' => e = .returned (.int .i64 (lsync s l).1) ∧ LX w0 S0 T0 w' d L (lsync s l).2.1 (lsync s l).2.2 := by
  obtain ⟨P, c, rs, hL⟩ := h.box
  have H := Lib.hid h
  obtain ⟨c0, c1, c2, c3, c4⟩ := hL.box.c5
  have lt := hL.box.lt
  have he := hL.eq
  have HP := Lib.hid (h.pow hE)
  clear h
  rcases snoc_cases rs with e | ⟨qs, r, e⟩
  · subst e
    rw [show lsync s l = (0, s, l) by unfold lsync; rw [he]; rfl]
    clear hL he
    go_enter Tryz.func34, Tryz.ntmps34
    go_wp2_with fail
    go_ret
    exact ⟨rfl, H.out⟩
  · subst e
    obtain ⟨R, hR⟩ : ∃ R, lsync s l = R := ⟨_, rfl⟩
    rw [hR]
    have hls : l.parts.getLast? = some r.pt := by rw [he]; simp
    unfold lsync at hR
    rw [hls] at hR
    dsimp only at hR
    rw [show r.pt.first = r.first from rfl] at hR
    obtain ⟨g, off, rfl, hg, k0, k1⟩ := hL.cells (k := qs.length) (r := r) (by simp)
    obtain ⟨q, hq⟩ : ∃ q, qs.length = q := ⟨_, rfl⟩
    obtain ⟨n, hn⟩ : ∃ n, (qs ++ [r]).length = n := ⟨_, rfl⟩
    have hqn : n = q + 1 := by rw [← hn, ← hq]; simp
    have hnl : n ≤ 100000000 := by
      have := hok.2.1
      rw [he, List.length_map, hn] at this
      exact this
    have HL := Lib.hid hL
    rw [hn] at c3
    rw [hq] at k0
    have h1 : ¬ (n : Int) = 0 := by omega
    have hw1 : IntKind.i64.wrap ((n : Int) - 1) = (q : Int) := by rw [IntWalk.i64_in _ (by omega)]; omega
    have h2 : q < n := by omega
    have h3 : (q : Int) < (n : Int) := by omega
    have LF := Lib.hid (fun (wx : World) (hb : Below w.heap.size w wx) => (hL.keep hb.size fun x hx => hb.block x (hL.lt hx)).file (HP.out.grow hb) (r.first : Int))
    have hfl := lfile_len l (r.first : Int)
    obtain ⟨f, hf⟩ : ∃ f, l.file (r.first : Int) = f := ⟨_, rfl⟩
    rw [hf] at hR LF hfl
    have DS := Lib.hid (fun (wx : World) (hb : Below w.heap.size w wx) => (H.out.grow hb).dSync f hfl)
    clear he hn hq hqn hls hf hL k1
    obtain ⟨X, hX⟩ : ∃ X, syncD s f = X := ⟨_, rfl⟩
    rw [hX] at hR DS
    obtain ⟨x, s2⟩ := X
    dsimp only at hR DS
    clear hX
    by_cases hx : x = 0
    · subst hx
      rw [if_neg (by simp)] at hR
      have HR := Lib.hid hR
      clear hR
      go_enter Tryz.func34, Tryz.ntmps34
      go_wp2_with fail
      refine wp_region_ord [(0, 1), (1, 1), (2, 1), (3, 1), (4, 1), (5, 1), (6, 1), (7, 1), (8, 1), (9, 1), (10, 1), (11, 1), (12, 1), (13, 1), (14, 1), (15, 1), (16, 1), (17, 1), (18, 2), (19, 3), (20, 0)] [19] 16 (by kernel_rfl) (by decide +kernel) ?_
      simp only [pickO, List.append_eq, List.cons_append, List.nil_append, List.getElem?_cons_succ, List.getElem?_cons_zero]
      intro w0 hG
      (repeat ((first | (with_reducible refine ord_q1 ?_) | (with_reducible refine ord_q0 ?_)); intro K hK; first | (refine Or.inr ⟨?_, ?_⟩; (focus (go_simp; first | done | (simp [undef]; done))); go_simp; (with_reducible refine hK _ ?_); clear hK K) | (refine Or.inl ⟨?_, ?_⟩; (focus (go_simp; done)); apply Exists.intro; refine And.intro ?_ ?_; (focus (first | (intro wq hq; obtain ⟨hcq, hfq⟩ := G.old hq; go_simp; (first | done | exact rfl); done) | (intro wq; go_simp; (first | done | exact rfl); done))); go_simp; (with_reducible refine hK _ ?_); clear hK K) | fail))
      (with_reducible refine ord_run ?_ hG)
      intro K hK
      go_simp
      go_at_call 62; (with_reducible refine (LF.out _ hG.b).mono ?_); rintro e w2 ⟨rfl, hb1⟩
      replace hG := Grew.trans hG hb1
      (try dsimp only)
      (with_reducible refine hK _ _ hG ?_)
      clear hK K
      (repeat ((first | (with_reducible refine ord_q1 ?_) | (with_reducible refine ord_q0 ?_)); intro K hK; first | (refine Or.inr ⟨?_, ?_⟩; (focus (go_simp; first | done | (simp [undef]; done))); go_simp; (with_reducible refine hK _ ?_); clear hK K) | (refine Or.inl ⟨?_, ?_⟩; (focus (go_simp; done)); apply Exists.intro; refine And.intro ?_ ?_; (focus (first | (intro wq hq; obtain ⟨hcq, hfq⟩ := G.old hq; go_simp; (first | done | exact rfl); done) | (intro wq; go_simp; (first | done | exact rfl); done))); go_simp; (with_reducible refine hK _ ?_); clear hK K) | fail))
      (with_reducible refine ord_tail ?_)
      intro K hK
      go_simp
      have hb9 := hG.b
      go_at_call 75
      (with_reducible refine (DS.out _ hb9).mono ?_)
      rintro e1 w6 ⟨rfl, h6⟩
      clear hG hb9 c0 c1 c2 c3 c4 lt k0 H HL LF DS HP hg
      replace h6 := Lib.hid h6
      (with_reducible refine hK _ _ ?_)
      clear hK K
      (repeat ((first | (with_reducible refine ord_q1 ?_) | (with_reducible refine ord_q0 ?_)); intro K hK; first | (refine Or.inr ⟨?_, ?_⟩; (focus (go_simp; first | done | (simp [undef]; done))); go_simp; (with_reducible refine hK _ ?_); clear hK K) | (refine Or.inl ⟨?_, ?_⟩; (focus (go_simp; done)); apply Exists.intro; refine And.intro ?_ ?_; (focus (first | (intro wq hq; obtain ⟨hcq, hfq⟩ := G.old hq; go_simp; (first | done | exact rfl); done) | (intro wq; go_simp; (first | done | exact rfl); done))); go_simp; (with_reducible refine hK _ ?_); clear hK K) | fail))
      (with_reducible refine ord_nil ?_)
      go_wp2_with fail
      go_at_call 33
      (with_reducible refine (h6.out.mLast hok).mono ?_)
      rintro e1 w7 ⟨rfl, h7⟩
      clear h6
      obtain ⟨P7, cc7, rs7, hL7⟩ := h7.box
      obtain ⟨c0, c1, c2, c3, c4⟩ := hL7.box.c5
      obtain ⟨f0, f1, f2, f3, f4⟩ := hL7.box.f5
      have lt := hL7.box.lt
      clear hL7
      replace h7 := Lib.hid h7
      go_wp2_with fail
      go_ret
      rw [← HR.out]
      exact ⟨rfl, h7.out.setDur _⟩
    · rw [if_pos hx] at hR
      have HR := Lib.hid hR
      have hx2 : (x != 0) = true := by rw [bne_iff_ne]; exact hx
      clear hR
      go_enter Tryz.func34, Tryz.ntmps34
      go_wp2_with fail
      refine wp_region_ord [(0, 1), (1, 1), (2, 1), (3, 1), (4, 1), (5, 1), (6, 1), (7, 1), (8, 1), (9, 1), (10, 1), (11, 1), (12, 1), (13, 1), (14, 1), (15, 1), (16, 1), (17, 1), (18, 2), (19, 3), (20, 0)] [19] 16 (by kernel_rfl) (by decide +kernel) ?_
      simp only [pickO, List.append_eq, List.cons_append, List.nil_append, List.getElem?_cons_succ, List.getElem?_cons_zero]
      intro w0 hG
      (repeat ((first | (with_reducible refine ord_q1 ?_) | (with_reducible refine ord_q0 ?_)); intro K hK; first | (refine Or.inr ⟨?_, ?_⟩; (focus (go_simp; first | done | (simp [undef]; done))); go_simp; (with_reducible refine hK _ ?_); clear hK K) | (refine Or.inl ⟨?_, ?_⟩; (focus (go_simp; done)); apply Exists.intro; refine And.intro ?_ ?_; (focus (first | (intro wq hq; obtain ⟨hcq, hfq⟩ := G.old hq; go_simp; (first | done | exact rfl); done) | (intro wq; go_simp; (first | done | exact rfl); done))); go_simp; (with_reducible refine hK _ ?_); clear hK K) | fail))
      (with_reducible refine ord_run ?_ hG)
      intro K hK
      go_simp
      go_at_call 62; (with_reducible refine (LF.out _ hG.b).mono ?_); rintro e w2 ⟨rfl, hb1⟩
      replace hG := Grew.trans hG hb1
      (try dsimp only)
      (with_reducible refine hK _ _ hG ?_)
      clear hK K
      (repeat ((first | (with_reducible refine ord_q1 ?_) | (with_reducible refine ord_q0 ?_)); intro K hK; first | (refine Or.inr ⟨?_, ?_⟩; (focus (go_simp; first | done | (simp [undef]; done))); go_simp; (with_reducible refine hK _ ?_); clear hK K) | (refine Or.inl ⟨?_, ?_⟩; (focus (go_simp; done)); apply Exists.intro; refine And.intro ?_ ?_; (focus (first | (intro wq hq; obtain ⟨hcq, hfq⟩ := G.old hq; go_simp; (first | done | exact rfl); done) | (intro wq; go_simp; (first | done | exact rfl); done))); go_simp; (with_reducible refine hK _ ?_); clear hK K) | fail))
      (with_reducible refine ord_tail ?_)
      intro K hK
      go_simp
      have hb9 := hG.b
      go_at_call 75
      (with_reducible refine (DS.out _ hb9).mono ?_)
      rintro e1 w6 ⟨rfl, h6⟩
      clear hG hb9 c0 c1 c2 c3 c4 lt k0 H HL LF DS HP hg
      replace h6 := Lib.hid h6
      (with_reducible refine hK _ _ ?_)
      clear hK K
      (repeat ((first | (with_reducible refine ord_q1 ?_) | (with_reducible refine ord_q0 ?_)); intro K hK; first | (refine Or.inr ⟨?_, ?_⟩; (focus (go_simp; first | done | (simp [undef]; done))); go_simp; (with_reducible refine hK _ ?_); clear hK K) | (refine Or.inl ⟨?_, ?_⟩; (focus (go_simp; done)); apply Exists.intro; refine And.intro ?_ ?_; (focus (first | (intro wq hq; obtain ⟨hcq, hfq⟩ := G.old hq; go_simp; (first | done | exact rfl); done) | (intro wq; go_simp; (first | done | exact rfl); done))); go_simp; (with_reducible refine hK _ ?_); clear hK K) | fail))
      (with_reducible refine ord_nil ?_)
      go_wp2_with fail
      go_ret
      rw [← HR.out]
      exact ⟨rfl, h6.out⟩
end
end Go.Proofs.YtbafnlccpbonmaaGreatDoor

namespace Go.Proofs.YtbafnlccpbonmaaGreatDoor
set_option linter.unusedVariables false
set_option linter.unnecessarySimpa false
set_option linter.unusedSimpArgs false
open Go.RowKit

theorem OwnO.of_bx {w : World} {b : Nat} {v : Value} (h : Bx w b [v]) : OwnO w 0 1 (some ⟨b, 0, none⟩) 1 1 [v] := by
  refine ⟨Nat.le_refl _, by decide, rfl, .inr ⟨b, 0, rfl, Nat.zero_le _, h.lt, fun k hk => ?_, fun j u hu => ?_⟩⟩
  · have : k = 0 := by omega
    subst this
    have := h.2 0 v rfl
    exact ⟨by rw [this.1]; rfl, this.2⟩
  · rw [Nat.zero_add]
    exact (h.2 j u hu).1
theorem OwnO.room {w : World} {base size : Nat} {A : Option Addr} {n c : Nat} {xs : List Value} (h : OwnO w base size A n c xs) : n ≤ c ∧ c ≤ maxLen := ⟨h.1, h.2.1⟩
section
variable {w w2 w3 : World} {L d : Nat} {l : Lg} {P P' : Option Addr} {c c' b n : Nat} {rs : List PR} {T : Nat → Prop}
theorem LogR.newPart (h : LogR w L d l P c rs) (hT : ∀ x, T x ↔ hasL L P rs x) (hb : Below w.heap.size w w2) (hbx : Bx w2 b [.int .i64 0]) (hbl : w.heap.size ≤ b)
    (ho : OwnO w3 0 2 P' (rs.length + 1) c' (rowP rs ++ [.int .i64 (n : Int), .slice (some ⟨b, 0, none⟩) 1 1])) (hg : w2.grownBy w3 (P.map (·.block))) (hP : P'.map (·.block) = P.map (·.block) ∨ P'.map (·.block) = some w2.heap.size) :
    LogR (w3.setCell ⟨L, 3, none⟩ (.slice P' (rs.length + 1) c')) L d { l with parts := l.parts ++ [⟨n, [0]⟩] } P' c' (rs ++ [⟨n, some ⟨b, 0, none⟩, 1, [0]⟩]) ∧
    (∀ x, hasL L P' (rs ++ [⟨n, some ⟨b, 0, none⟩, 1, [0]⟩]) x → T x ∨ w.heap.size ≤ x) ∧ DChg T w (w3.setCell ⟨L, 3, none⟩ (.slice P' (rs.length + 1) c')) := by
  have hL := h.box.lt
  have hs2 := hb.size
  have hs3 := hg.size
  have hbl2 := hbx.lt
  have hPb : ∀ ad, P = some ad → ad.block < w.heap.size := fun ad ha => h.lt (.inr (.inl ⟨ad, ha, rfl⟩))
  have hP' : ∀ ad, P' = some ad → (∃ ap, P = some ap ∧ ad.block = ap.block) ∨ ad.block = w2.heap.size := fun ad ha => by
    subst ha
    rcases hP with hP | hP
    · rcases P with _ | ap
      · simp at hP
      · simp at hP
        exact .inl ⟨ap, rfl, hP⟩
    · simp at hP
      exact .inr hP
  have hk3 : ∀ x, x < w.heap.size → (∀ ad, P = some ad → ad.block ≠ x) → w3.heap[x]? = w.heap[x]? := fun x hx hn => by
    rw [hg.block x (by omega) (fun e => by
      rcases P with _ | ad
      · cases e
      · simp at e
        exact hn ad rfl e.symm), hb.block x hx]
  have hk4 : ∀ x, x ≠ L → (w3.setCell ⟨L, 3, none⟩ (.slice P' (rs.length + 1) c')).heap[x]? = w3.heap[x]? := fun x hx => Below.heap_setCell _ _ _ _ hx
  have hs4 : w3.heap.size ≤ (w3.setCell ⟨L, 3, none⟩ (.slice P' (rs.length + 1) c')).heap.size := by simp [World.setCell]
  have hb3 : w3.heap[b]? = w2.heap[b]? := hg.block b hbl2 fun e => by
    rcases P with _ | ad
    · cases e
    · simp at e
      have := hPb ad rfl
      omega
  have hPL : ∀ ad, P' = some ad → ad.block ≠ L := fun ad ha => by
    rcases hP' ad ha with ⟨ap, hp, e⟩ | e
    · rw [e]; exact h.pl ap hp
    · omega
  refine ⟨⟨?_, ?_, ?_, ?_, ?_, hPL, ?_⟩, ?_, ?_⟩
  · have : Bx w3 L _ := h.box.block (by omega) (hk3 L hL h.pl)
    refine this.put ?_
    simp
  · have e : rowP (rs ++ [⟨n, some ⟨b, 0, none⟩, 1, [0]⟩]) = rowP rs ++ [.int .i64 (n : Int), .slice (some ⟨b, 0, none⟩) 1 1] := by rw [rowP_app]; rfl
    rw [e, List.length_append]
    exact ho.block hs4 fun ad ha => hk4 _ (hPL ad ha)
  · intro r hr
    rcases List.mem_append.1 hr with hr | hr
    · exact (h.each r hr).block (by omega) fun ad ha => by
        have hh := h.out r hr _ ⟨ad, ha, rfl⟩
        rw [hk4 _ hh.1, hk3 _ (h.lt (.inr (.inr ⟨r, hr, ad, ha, rfl⟩))) hh.2]
    · simp at hr
      subst hr
      exact OwnO.of_bx ((hbx.block hs3 hb3).block hs4 (hk4 b (by omega)))
  · rw [List.pairwise_append]
    refine ⟨h.apart, by simp, fun r hr q hq x hx hy => ?_⟩
    simp at hq
    subst hq
    obtain ⟨ad, ha, e⟩ := hy
    cases ha
    have := h.lt (.inr (.inr ⟨r, hr, hx⟩))
    dsimp only at e
    omega
  · intro r hr x hx
    rcases List.mem_append.1 hr with hr | hr
    · have hh := h.out r hr x hx
      refine ⟨hh.1, fun ad ha => ?_⟩
      rcases hP' ad ha with ⟨ap, hp, e⟩ | e
      · rw [e]; exact hh.2 ap hp
      · have := h.lt (.inr (.inr ⟨r, hr, hx⟩))
        omega
    · simp at hr
      subst hr
      obtain ⟨ad, ha, e⟩ := hx
      cases ha
      dsimp only at e
      refine ⟨by omega, fun ad ha => ?_⟩
      rcases hP' ad ha with ⟨ap, hp, e⟩ | e
      · have := hPb ap hp
        omega
      · omega
  · rw [List.map_append, ← h.eq]
    rfl
  · intro x hx
    rcases hx with rfl | ⟨ad, ha, rfl⟩ | ⟨r, hr, hx⟩
    · exact .inl ((hT _).2 (.inl rfl))
    · rcases hP' ad ha with ⟨ap, hp, e⟩ | e
      · exact .inl ((hT _).2 (.inr (.inl ⟨ap, hp, e.symm⟩)))
      · exact .inr (by omega)
    · rcases List.mem_append.1 hr with hr | hr
      · exact .inl ((hT _).2 (.inr (.inr ⟨r, hr, hx⟩)))
      · simp at hr
        subst hr
        obtain ⟨ad, ha, e⟩ := hx
        cases ha
        dsimp only at e
        exact .inr (by omega)
  · exact ((DChg.of_below hb).grownBy hg fun g hg => by
      rcases P with _ | ad
      · cases hg
      · simp at hg
        exact (hT _).2 (.inr (.inl ⟨ad, rfl, hg⟩))).setCell ((hT _).2 (.inl rfl)) _ _
/-- The last segment has one record more: its row of offsets has grown. -/
theorem LogR.morePart {qs : List PR} {r : PR} {A' : Option Addr} {z : Nat} {g off : Nat} (h : LogR w L d l (some ⟨g, off, none⟩) c (qs ++ [r])) (hT : ∀ x, T x ↔ hasL L (some ⟨g, off, none⟩) (qs ++ [r]) x) (hb : Below w.heap.size w w2)
    (ho : OwnO w3 0 1 A' (r.offs.length + 1) c' (natsC r.offs ++ [.int .i64 (z : Int)])) (hg : w2.grownBy w3 (r.A.map (·.block))) (hP : A'.map (·.block) = r.A.map (·.block) ∨ A'.map (·.block) = some w2.heap.size) :
    LogR (w3.setCell ⟨g, off + qs.length * 2 + 1, none⟩ (.slice A' (r.offs.length + 1) c')) L d { l with parts := l.parts.dropLast ++ [⟨r.first, r.offs ++ [z]⟩] } (some ⟨g, off, none⟩) c (qs ++ [⟨r.first, A', c', r.offs ++ [z]⟩]) ∧
    (∀ x, hasL L (some ⟨g, off, none⟩) (qs ++ [⟨r.first, A', c', r.offs ++ [z]⟩]) x → T x ∨ w.heap.size ≤ x) ∧ DChg T w (w3.setCell ⟨g, off + qs.length * 2 + 1, none⟩ (.slice A' (r.offs.length + 1) c')) := by
  have hrm : r ∈ qs ++ [r] := by simp
  have hL := h.box.lt
  have hgl : g < w.heap.size := h.lt (.inr (.inl ⟨_, rfl, rfl⟩))
  have hgL : g ≠ L := h.pl _ rfl
  have hs2 := hb.size
  have hs3 := hg.size
  have hA : ∀ ad, r.A = some ad → ad.block < w.heap.size ∧ ad.block ≠ L ∧ ad.block ≠ g := fun ad ha => by
    have hh := h.out r hrm _ ⟨ad, ha, rfl⟩
    exact ⟨h.lt (.inr (.inr ⟨r, hrm, ad, ha, rfl⟩)), hh.1, fun e => hh.2 _ rfl e.symm⟩
  have hA' : ∀ ad, A' = some ad → (∃ ap, r.A = some ap ∧ ad.block = ap.block) ∨ ad.block = w2.heap.size := fun ad ha => by
    subst ha
    rcases hP with hP | hP
    · rcases hr : r.A with _ | ap
      · rw [hr] at hP
        simp at hP
      · rw [hr] at hP
        simp at hP
        exact .inl ⟨ap, rfl, hP⟩
    · simp at hP
      exact .inr hP
  have hk3 : ∀ x, x < w.heap.size → (∀ ad, r.A = some ad → ad.block ≠ x) → w3.heap[x]? = w.heap[x]? := fun x hx hn => by
    rw [hg.block x (by omega) (fun e => by
      rcases hr : r.A with _ | ad
      · rw [hr] at e
        cases e
      · rw [hr] at e
        simp at e
        exact hn ad hr e.symm), hb.block x hx]
  have hk4 : ∀ x, x ≠ g → (w3.setCell ⟨g, off + qs.length * 2 + 1, none⟩ (.slice A' (r.offs.length + 1) c')).heap[x]? = w3.heap[x]? := fun x hx => Below.heap_setCell _ _ _ _ hx
  have hs4 : w3.heap.size ≤ (w3.setCell ⟨g, off + qs.length * 2 + 1, none⟩ (.slice A' (r.offs.length + 1) c')).heap.size := by simp [World.setCell]
  have hAg : ∀ ad, A' = some ad → ad.block ≠ g := fun ad ha => by
    rcases hA' ad ha with ⟨ap, hp, e⟩ | e
    · rw [e]; exact (hA ap hp).2.2
    · omega
  have hap := List.pairwise_append.1 h.apart
  have hqr : ∀ q ∈ qs, ∀ x, q.has x → ¬ r.has x := fun q hq => hap.2.2 q hq r (by simp)
  refine ⟨⟨?_, ?_, ?_, ?_, ?_, h.pl, ?_⟩, ?_, ?_⟩
  · have : Bx w3 L _ := h.box.block (by omega) (hk3 L hL fun ad ha => (hA ad ha).2.1)
    have := this.block hs4 (hk4 L (fun e => hgL e.symm))
    rw [List.length_append] at this ⊢
    exact this
  · have h0 := h.row
    have h3 : OwnO w3 0 2 (some ⟨g, off, none⟩) (qs ++ [r]).length c (rowP (qs ++ [r])) := h0.block (by omega) fun ad ha => by
      cases ha
      exact hk3 g hgl fun ad ha => (hA ad ha).2.2
    obtain ⟨o1, o2, o3, o4⟩ := h3
    rcases o4 with ⟨o4, _⟩ | ⟨g', off', e, k1, k2, k3, k4⟩
    · cases o4
    cases e
    have hlen : (qs ++ [(⟨r.first, A', c', r.offs ++ [z]⟩ : PR)]).length = (qs ++ [r]).length := by simp
    have hlt : qs.length < (qs ++ [r]).length := by simp
    have hset : (rowP (qs ++ [r])).set (qs.length * 2 + 1) (⟨r.first, A', c', r.offs ++ [z]⟩ : PR).val = rowP (qs ++ [⟨r.first, A', c', r.offs ++ [z]⟩]) := by
      rw [rowP_set (qs ++ [r]) qs.length r ⟨r.first, A', c', r.offs ++ [z]⟩ (by simp) rfl]
      congr 1
      simp
    have hval : (⟨r.first, A', c', r.offs ++ [z]⟩ : PR).val = .slice A' (r.offs.length + 1) c' := by
      unfold PR.val
      simp
    rw [hval] at hset
    rw [hlen, ← hset]
    refine ⟨o1, o2, by rw [List.length_set]; exact o3, .inr ⟨g, off, rfl, Nat.zero_le _, by omega, fun k hk => ?_, fun j u hu => ?_⟩⟩
    · have hh := k3 k hk
      by_cases e : k = qs.length * 2 + 1
      · subst e
        rw [← Nat.add_assoc] at hh ⊢
        obtain ⟨v, hv⟩ := Option.isSome_iff_exists.1 hh.1
        exact ⟨by rw [World.cell?_setCell_same' _ _ _ (by rw [hv]; rfl)]; rfl, by rw [World.frozen?_setCell]; exact hh.2⟩
      · exact ⟨by rw [World.cell?_setCell_other _ _ _ _ (by intro e9; injection e9 with _ e8 _; omega)]; exact hh.1, by rw [World.frozen?_setCell]; exact hh.2⟩
    · rw [List.getElem?_set] at hu
      by_cases e : qs.length * 2 + 1 = j
      · rw [if_pos e] at hu
        subst e
        have hjl : qs.length * 2 + 1 < (rowP (qs ++ [r])).length := by rw [o3]; omega
        rw [if_pos hjl] at hu
        cases hu
        have hv := k4 _ _ (List.getElem?_eq_getElem hjl)
        rw [← Nat.add_assoc] at hv ⊢
        exact World.cell?_setCell_same' _ _ _ (by rw [hv]; rfl)
      · rw [if_neg e] at hu
        rw [World.cell?_setCell_other _ _ _ _ (by intro e9; injection e9 with _ e8 _; omega)]
        exact k4 j u hu
  · intro q hq
    rcases List.mem_append.1 hq with hq | hq
    · have hqm : q ∈ qs ++ [r] := List.mem_append_left _ hq
      exact (h.each q hqm).block (by omega) fun ad ha => by
        have hh := h.out q hqm _ ⟨ad, ha, rfl⟩
        rw [hk4 _ (fun e => hh.2 _ rfl e.symm), hk3 _ (h.lt (.inr (.inr ⟨q, hqm, ad, ha, rfl⟩))) fun ap hp e => hqr q hq _ ⟨ad, ha, rfl⟩ ⟨ap, hp, e⟩]
    · simp at hq
      subst hq
      have := ho.block hs4 fun ad ha => hk4 _ (hAg ad ha)
      dsimp only
      rw [List.length_append]
      unfold natsC at this ⊢
      rw [List.map_append]
      exact this
  · rw [List.pairwise_append]
    refine ⟨hap.1, by simp, fun q hq p hp x hx hy => ?_⟩
    simp at hp
    subst hp
    obtain ⟨ad, ha, e⟩ := hy
    dsimp only at ha
    rcases hA' ad ha with ⟨ap, hp, e2⟩ | e2
    · exact hqr q hq x hx ⟨ap, hp, by omega⟩
    · have := h.lt (.inr (.inr ⟨q, List.mem_append_left _ hq, hx⟩))
      omega
  · intro q hq x hx
    rcases List.mem_append.1 hq with hq | hq
    · exact h.out q (List.mem_append_left _ hq) x hx
    · simp at hq
      subst hq
      obtain ⟨ad, ha, e⟩ := hx
      dsimp only at ha
      rcases hA' ad ha with ⟨ap, hp, e2⟩ | e2
      · have := hA ap hp
        exact ⟨by omega, fun a2 h2 => by cases h2; dsimp only; omega⟩
      · exact ⟨by omega, fun a2 h2 => by cases h2; dsimp only; omega⟩
  · rw [h.eq]
    simp [PR.pt]
  · intro x hx
    rcases hx with rfl | ⟨ad, ha, rfl⟩ | ⟨q, hq, hx⟩
    · exact .inl ((hT _).2 (.inl rfl))
    · exact .inl ((hT _).2 (.inr (.inl ⟨ad, ha, rfl⟩)))
    · rcases List.mem_append.1 hq with hq | hq
      · exact .inl ((hT _).2 (.inr (.inr ⟨q, List.mem_append_left _ hq, hx⟩)))
      · simp at hq
        subst hq
        obtain ⟨ad, ha, e⟩ := hx
        dsimp only at ha
        rcases hA' ad ha with ⟨ap, hp, e2⟩ | e2
        · exact .inl ((hT _).2 (.inr (.inr ⟨r, hrm, ap, hp, by omega⟩)))
        · exact .inr (by omega)
  · exact ((DChg.of_below hb).grownBy hg fun x hx => by
      rcases hr : r.A with _ | ad
      · rw [hr] at hx
        cases hx
      · rw [hr] at hx
        simp at hx
        exact (hT _).2 (.inr (.inr ⟨r, hrm, ad, hr, hx⟩))).setCell ((hT _).2 (.inr (.inl ⟨_, rfl, rfl⟩))) _ _
end
end Go.Proofs.YtbafnlccpbonmaaGreatDoor
