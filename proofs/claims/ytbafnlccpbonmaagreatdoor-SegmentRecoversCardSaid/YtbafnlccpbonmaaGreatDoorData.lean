/- Data in memory that nobody changes: which blocks it lies in, what keeps it; trees of values. Nothing here walks a program. -/
import Derived.Test.YtbafnlccpbonmaaGreatDoorOrd
namespace Go.Proofs.YtbafnlccpbonmaaGreatDoor
set_option linter.unusedVariables false
set_option linter.unnecessarySimpa false
set_option linter.unusedSimpArgs false
open Go.RowKit

/-- The slice lies in one of ok's blocks, or nowhere. -/
def OkA (ok : Nat → Prop) (A : Option Addr) : Prop := ∀ ad, A = some ad → ok ad.block
theorem OkA.mono {ok ok' : Nat → Prop} {A : Option Addr} (h : OkA ok A) (hk : ∀ b, ok b → ok' b) : OkA ok' A := fun ad e => hk _ (h ad e)
theorem OkA.none_ (ok : Nat → Prop) : OkA ok none := fun _ h => by cases h
theorem OkA.abv {B : Nat} {A : Option Addr} (h : Abv B A) : OkA (fun b => B ≤ b) A := h
/-- From block B on. -/
abbrev From (B : Nat) : Nat → Prop := fun b => B ≤ b

/-- What lies in ok's blocks lies as it lay. -/
def Keeps (ok : Nat → Prop) (w w' : World) : Prop := w.heap.size ≤ w'.heap.size ∧ ∀ b, ok b → b < w.heap.size → w'.heap[b]? = w.heap[b]?
theorem Keeps.refl (ok : Nat → Prop) (w : World) : Keeps ok w w := ⟨Nat.le_refl _, fun _ _ _ => rfl⟩
theorem Keeps.trans {ok : Nat → Prop} {a b c : World} (h : Keeps ok a b) (k : Keeps ok b c) : Keeps ok a c :=
  ⟨Nat.le_trans h.1 k.1, fun i hi hl => (k.2 i hi (Nat.lt_of_lt_of_le hl h.1)).trans (h.2 i hi hl)⟩
theorem Keeps.of_below {ok : Nat → Prop} {w w' : World} (h : Below w.heap.size w w') : Keeps ok w w' := ⟨h.size, fun b _ hb => h.block b hb⟩
theorem Keeps.mono {ok ok' : Nat → Prop} {w w' : World} (h : Keeps ok w w') (hk : ∀ b, ok' b → ok b) : Keeps ok' w w' := ⟨h.1, fun b hb hl => h.2 b (hk b hb) hl⟩
theorem Keeps.setCell {ok : Nat → Prop} {a w : World} (h : Keeps ok a w) {p : Addr} (hp : ¬ ok p.block) (u : Value) : Keeps ok a (w.setCell p u) :=
  h.trans ⟨by simp [World.setCell], fun b hb _ => Below.heap_setCell _ _ _ _ (fun e => hp (e ▸ hb))⟩
theorem Keeps.alloc {ok : Nat → Prop} {a w : World} (h : Keeps ok a w) (o : Obj) : Keeps ok a (w.alloc o) := h.trans (Keeps.of_below (G.alloc (G.refl w) o))
theorem Keeps.drewN {ok : Nat → Prop} {a w : World} (h : Keeps ok a w) (n : Nat) : Keeps ok a (w.drewN n) := h.trans (Keeps.of_below (G.drewN (G.refl w) n))
theorem Keeps.grown {ok : Nat → Prop} {a w w' : World} {row : Option Nat} (h : Keeps ok a w) (hg : w.grownBy w' row) (hr : ∀ k, row = some k → a.heap.size ≤ k ∨ ¬ ok k) : Keeps ok a w' :=
  ⟨Nat.le_trans h.1 hg.size, fun b hb hl => (hg.block b (Nat.lt_of_lt_of_le hl h.1) (fun e => by rcases hr b e.symm with h1 | h1; (omega); exact h1 hb)).trans (h.2 b hb hl)⟩
theorem Keeps.cell {ok : Nat → Prop} {w w' : World} (h : Keeps ok w w') {a : Addr} {v : Value} (hc : w.cell? a = some v) (ha : ok a.block) : w'.cell? a = some v := by
  have hb := h.2 a.block ha (cell_lt hc)
  unfold World.cell? at hc ⊢
  rw [hb]
  exact hc
theorem Sl.keep {ok : Nat → Prop} {w w' : World} {A : Option Addr} {n : Nat} {xs : List Value} (h : Sl w A n xs) (ho : OkA ok A) (hk : Keeps ok w w') : Sl w' A n xs :=
  ⟨h.1, fun hn => let ⟨b, off, e, hl, hc⟩ := h.2 hn; ⟨b, off, e, Nat.lt_of_lt_of_le hl hk.1, fun j u hu => hk.cell (hc j u hu) (ho ⟨b, off, none⟩ e)⟩⟩

/-- In none of the blocks that an append onto v may write. -/
def Beside (L : Nat) (v : Value) : Nat → Prop := fun b => L ≤ b ∧ v.ownBlock ≠ some b
section
variable {P : Program}
/-- An append onto a row of the call's own; the row stays where it is, or moves to a new block. -/
theorem step_appB {ops : Array Oper} {o : Oper} {a : Act} {w : World} {K : Act → World → Prop} {Q : Exit → Act → World → Prop} {E : Prop} (hgd : o.guard = none) (s x : Operand) (t : TypeId)
    (ho : o.op = .call { callee := .builtin .append, args := #[s, x], argTypes := #[t, t] })
    (base : Nat) (e : TypeId) (i : TypeInfo) (z : Value) (size bytes : Nat) (ht : P.underlying t = some (.slice e)) (hi : P.info? e = some i) (hz : i.zero = some z)
    (hsize : i.size = size) (hby : i.bytes = bytes) (hzs : z.cells.size = size) (hsz : 0 < size)
    (v : Value) (n : Nat) (xs : List Value) (hs : a.eval s = v) (hown : w.ownsRow base e size v n xs)
    (A : Option Addr) (m c : Nat) (news : List Value) (hx : a.eval x = .slice A m c) (hr : Sl w A (m * size) news) (h1 : ∀ u ∈ news, u.oneCell' = true)
    (h63 : n + m ≤ maxLen) (hbytes : (n + m) * bytes ≤ 140737488355328) (hbase : base ≤ w.heap.size)
    (h : ∀ A' c' w', w'.ownsRow base e size (.slice A' (n + m) c') (n + m) (xs ++ news) → n + m ≤ c' → c' ≤ maxLen → w.grownBy w' v.ownBlock →
      ((Value.slice A' (n + m) c').ownBlock = v.ownBlock ∨ (Value.slice A' (n + m) c').ownBlock = some w.heap.size) → K (a.put o.dst (.slice A' (n + m) c')) w') :
    if Region.wanted o (yielded ops a.tmps) = true then Oper.wp P o a w K Q else E := by
  have hw : Region.wanted o (yielded ops a.tmps) = true := by simp [Region.wanted, hgd]
  rw [if_pos hw]
  obtain ⟨v', w', hrun, h2, h3, h4⟩ := run_app (P := P) w base t o.type e i z size bytes ht hi hz hsize hby hzs hsz v n xs hown A m c news hr h1 h63 hbytes hbase
  obtain ⟨A', c', rfl, h5, h6⟩ := own_shape h2
  unfold Oper.wp execOp
  simp only [ho, resolve, invoke, builtin, Sem.run_bind, Sem.run_pure, Result.andThen_ok, List.map_toArray, List.map_cons, List.map_nil, hs, hx, hrun]
  exact h A' c' w' h2 h5 h6 h3 h4
end
/-- What lies beside a row lies beside it when it has grown. -/
theorem Tree.beside_later {L : Nat} {v v' : Value} {w : World} (h : v'.ownBlock = v.ownBlock ∨ v'.ownBlock = some w.heap.size) {b : Nat} (hb : b < w.heap.size) (ho : Beside L v b) : Beside L v' b := by
  refine ⟨ho.1, ?_⟩
  rcases h with h | h
  · rw [h]; exact ho.2
  · rw [h]; intro e; cases e; omega

/-- A block's cells, to be written. -/
def Bx (w : World) (B : Nat) (cs : List Value) : Prop := B < w.heap.size ∧ ∀ i u, cs[i]? = some u → w.cell? ⟨B, i, none⟩ = some u ∧ w.frozen? ⟨B, i, none⟩ = false
theorem Bx.new {w : World} {B : Nat} {l : List Value} {a : Array Value} {t : TypeId} (hB : B = w.heap.size) (ha : a = l.toArray) : Bx (w.alloc (.cells a t)) B l := by
  subst hB ha
  refine ⟨by simp, fun i u hu => ⟨?_, ?_⟩⟩
  · simp only [World.cell?, heap_alloc_new]
    simpa using hu
  · go_simp
theorem Bx.block {w w' : World} {B : Nat} {l : List Value} (h : Bx w B l) (hs : w.heap.size ≤ w'.heap.size) (hb : w'.heap[B]? = w.heap[B]?) : Bx w' B l := by
  refine ⟨Nat.lt_of_lt_of_le h.1 hs, fun i u hu => ?_⟩
  have := h.2 i u hu
  unfold World.cell? World.frozen? at this ⊢
  simp only at this ⊢
  rw [hb]
  exact this
theorem Bx.grow {w w' : World} {B : Nat} {l : List Value} (h : Bx w B l) (hb : Below w.heap.size w w') : Bx w' B l := h.block hb.size (hb.block _ h.1)
theorem Bx.keep {ok : Nat → Prop} {w w' : World} {B : Nat} {l : List Value} (h : Bx w B l) (hk : Keeps ok w w') (ho : ok B) : Bx w' B l := h.block hk.1 (hk.2 _ ho h.1)
theorem Bx.alloc {w : World} {B : Nat} {l : List Value} (h : Bx w B l) (o : Obj) : Bx (w.alloc o) B l := h.grow (G.alloc (G.refl w) o)
theorem Bx.drewN {w : World} {B : Nat} {l : List Value} (h : Bx w B l) (n : Nat) : Bx (w.drewN n) B l := h.grow (G.drewN (G.refl w) n)
theorem Bx.other {w : World} {B : Nat} {l : List Value} (h : Bx w B l) {p : Addr} (hp : B ≠ p.block) (u : Value) : Bx (w.setCell p u) B l := h.block (by simp [World.setCell]) (Below.heap_setCell _ _ _ _ hp)
theorem Bx.put {w : World} {B i : Nat} {l l' : List Value} {v : Value} (h : Bx w B l) (e : l.set i v = l') : Bx (w.setCell ⟨B, i, none⟩ v) B l' := by
  subst e
  refine ⟨by simpa [World.setCell] using h.1, fun j u hu => ?_⟩
  rw [List.getElem?_set] at hu
  rw [World.frozen?_setCell]
  split at hu
  · rename_i hij
    subst hij
    split at hu
    · rename_i hl
      cases hu
      have := h.2 i l[i] (List.getElem?_eq_getElem hl)
      exact ⟨World.cell?_setCell_same' _ _ _ (by rw [this.1]; rfl), this.2⟩
    · cases hu
  · rename_i hij
    have := h.2 j u hu
    exact ⟨(World.cell?_setCell_other _ _ _ _ (fun e => hij (by cases e; rfl))).trans this.1, this.2⟩
theorem Bx.c11 {w : World} {B : Nat} {a b c d e f g h i j k : Value} (x : Bx w B [a, b, c, d, e, f, g, h, i, j, k]) : w.cell? ⟨B, 0, none⟩ = some a ∧ w.cell? ⟨B, 1, none⟩ = some b ∧ w.cell? ⟨B, 2, none⟩ = some c ∧ w.cell? ⟨B, 3, none⟩ = some d ∧ w.cell? ⟨B, 4, none⟩ = some e ∧ w.cell? ⟨B, 5, none⟩ = some f ∧ w.cell? ⟨B, 6, none⟩ = some g ∧ w.cell? ⟨B, 7, none⟩ = some h ∧ w.cell? ⟨B, 8, none⟩ = some i ∧ w.cell? ⟨B, 9, none⟩ = some j ∧ w.cell? ⟨B, 10, none⟩ = some k :=
  ⟨(x.2 0 _ rfl).1, (x.2 1 _ rfl).1, (x.2 2 _ rfl).1, (x.2 3 _ rfl).1, (x.2 4 _ rfl).1, (x.2 5 _ rfl).1, (x.2 6 _ rfl).1, (x.2 7 _ rfl).1, (x.2 8 _ rfl).1, (x.2 9 _ rfl).1, (x.2 10 _ rfl).1⟩
theorem Bx.c10 {w : World} {B : Nat} {a b c d e f g h i j : Value} (x : Bx w B [a, b, c, d, e, f, g, h, i, j]) : w.cell? ⟨B, 0, none⟩ = some a ∧ w.cell? ⟨B, 1, none⟩ = some b ∧ w.cell? ⟨B, 2, none⟩ = some c ∧ w.cell? ⟨B, 3, none⟩ = some d ∧ w.cell? ⟨B, 4, none⟩ = some e ∧ w.cell? ⟨B, 5, none⟩ = some f ∧ w.cell? ⟨B, 6, none⟩ = some g ∧ w.cell? ⟨B, 7, none⟩ = some h ∧ w.cell? ⟨B, 8, none⟩ = some i ∧ w.cell? ⟨B, 9, none⟩ = some j :=
  ⟨(x.2 0 _ rfl).1, (x.2 1 _ rfl).1, (x.2 2 _ rfl).1, (x.2 3 _ rfl).1, (x.2 4 _ rfl).1, (x.2 5 _ rfl).1, (x.2 6 _ rfl).1, (x.2 7 _ rfl).1, (x.2 8 _ rfl).1, (x.2 9 _ rfl).1⟩
theorem Bx.f10 {w : World} {B : Nat} {a b c d e f g h i j : Value} (x : Bx w B [a, b, c, d, e, f, g, h, i, j]) : w.frozen? ⟨B, 0, none⟩ = false ∧ w.frozen? ⟨B, 1, none⟩ = false ∧ w.frozen? ⟨B, 2, none⟩ = false ∧ w.frozen? ⟨B, 3, none⟩ = false ∧ w.frozen? ⟨B, 4, none⟩ = false ∧ w.frozen? ⟨B, 5, none⟩ = false ∧ w.frozen? ⟨B, 6, none⟩ = false ∧ w.frozen? ⟨B, 7, none⟩ = false ∧ w.frozen? ⟨B, 8, none⟩ = false ∧ w.frozen? ⟨B, 9, none⟩ = false :=
  ⟨(x.2 0 _ rfl).2, (x.2 1 _ rfl).2, (x.2 2 _ rfl).2, (x.2 3 _ rfl).2, (x.2 4 _ rfl).2, (x.2 5 _ rfl).2, (x.2 6 _ rfl).2, (x.2 7 _ rfl).2, (x.2 8 _ rfl).2, (x.2 9 _ rfl).2⟩
theorem Bx.f11 {w : World} {B : Nat} {a b c d e f g h i j k : Value} (x : Bx w B [a, b, c, d, e, f, g, h, i, j, k]) : w.frozen? ⟨B, 0, none⟩ = false ∧ w.frozen? ⟨B, 1, none⟩ = false ∧ w.frozen? ⟨B, 2, none⟩ = false ∧ w.frozen? ⟨B, 3, none⟩ = false ∧ w.frozen? ⟨B, 4, none⟩ = false ∧ w.frozen? ⟨B, 5, none⟩ = false ∧ w.frozen? ⟨B, 6, none⟩ = false ∧ w.frozen? ⟨B, 7, none⟩ = false ∧ w.frozen? ⟨B, 8, none⟩ = false ∧ w.frozen? ⟨B, 9, none⟩ = false ∧ w.frozen? ⟨B, 10, none⟩ = false :=
  ⟨(x.2 0 _ rfl).2, (x.2 1 _ rfl).2, (x.2 2 _ rfl).2, (x.2 3 _ rfl).2, (x.2 4 _ rfl).2, (x.2 5 _ rfl).2, (x.2 6 _ rfl).2, (x.2 7 _ rfl).2, (x.2 8 _ rfl).2, (x.2 9 _ rfl).2, (x.2 10 _ rfl).2⟩
theorem Bx.lt {w : World} {B : Nat} {l : List Value} (h : Bx w B l) : B < w.heap.size := h.1

/-- A slice of n elements of sz cells each, its cells in ok's blocks. -/
def Rw (ok : Nat → Prop) (w : World) (sz : Nat) (A : Option Addr) (n c : Nat) (xs : List Value) : Prop := n ≤ c ∧ c ≤ maxLen ∧ Sl w A (n * sz) xs ∧ (0 < n → OkA ok A)
theorem Rw.keep {ok : Nat → Prop} {w w' : World} {sz : Nat} {A : Option Addr} {n c : Nat} {xs : List Value} (h : Rw ok w sz A n c xs) (hk : Keeps ok w w') : Rw ok w' sz A n c xs := by
  refine ⟨h.1, h.2.1, ?_, h.2.2.2⟩
  rcases Nat.eq_zero_or_pos n with h0 | h0
  · subst h0
    have := h.2.2.1.1
    rw [Nat.zero_mul] at this ⊢
    exact ⟨this, fun h => absurd h (by omega)⟩
  · exact h.2.2.1.keep (h.2.2.2 h0) hk
theorem Rw.grow {ok : Nat → Prop} {w w' : World} {sz : Nat} {A : Option Addr} {n c : Nat} {xs : List Value} (h : Rw ok w sz A n c xs) (hb : Below w.heap.size w w') : Rw ok w' sz A n c xs := h.keep (Keeps.of_below hb)
theorem Rw.mono {ok ok' : Nat → Prop} {w : World} {sz : Nat} {A : Option Addr} {n c : Nat} {xs : List Value} (h : Rw ok w sz A n c xs) (hsz : 0 < sz) (hk : ∀ b, b < w.heap.size → ok b → ok' b) : Rw ok' w sz A n c xs :=
  ⟨h.1, h.2.1, h.2.2.1, fun hn ad e => by
    obtain ⟨b, off, e', hb, _⟩ := h.2.2.1.2 (Nat.mul_pos hn hsz)
    have ho := h.2.2.2 hn ad e
    rw [e] at e'
    cases e'
    exact hk _ hb ho⟩
theorem Rw.nil (ok : Nat → Prop) (w : World) (sz : Nat) : Rw ok w sz none 0 0 [] := ⟨Nat.le_refl _, Nat.zero_le _, by rw [Nat.zero_mul]; exact Sl.nil _ _, fun _ => OkA.none_ _⟩
/-- The j-th element of a row: where its cells lie. -/
theorem Rw.at_ {ok : Nat → Prop} {w : World} {sz : Nat} {A : Option Addr} {n c : Nat} {xs : List Value} (h : Rw ok w sz A n c xs) (hsz : 0 < sz) {j : Nat} (hj : j < n) :
    ∃ b off, A = some ⟨b, off, none⟩ ∧ b < w.heap.size ∧ ok b ∧ ((xs.drop (j * sz)).take sz).length = sz ∧ ∀ i u, ((xs.drop (j * sz)).take sz)[i]? = some u → w.cell? ⟨b, off + j * sz + i, none⟩ = some u := by
  obtain ⟨_, _, ⟨hl, hc⟩, ho⟩ := h
  have h1 : (j + 1) * sz ≤ n * sz := Nat.mul_le_mul_right sz hj
  rw [Nat.add_mul, Nat.one_mul] at h1
  obtain ⟨b, off, rfl, hb, hcell⟩ := hc (by omega)
  refine ⟨b, off, rfl, hb, ho (by omega) _ rfl, by rw [List.length_take, List.length_drop]; omega, fun i u hu => (congrArg (fun z => w.cell? ⟨b, z, none⟩) (Nat.add_assoc _ _ _)).trans (hcell _ u ?_)⟩
  rw [List.getElem?_take] at hu
  split at hu
  · rwa [List.getElem?_drop] at hu
  · cases hu

theorem Keeps.trans' {ok : Nat → Prop} {L : World} {w w' : World} (h : Keeps ok L w) (hs : L.heap.size ≤ w.heap.size) (hb : Below L.heap.size w w') : Keeps ok L w' :=
  ⟨Nat.le_trans h.1 hb.size, fun b ho hl => (hb.block b hl).trans (h.2 b ho hl)⟩
theorem Bx.below {w w' : World} {B L : Nat} {l : List Value} (h : Bx w B l) (hb : Below L w w') (hl : B < L) : Bx w' B l := h.block hb.size (hb.block _ hl)
theorem own_keep {w w' : World} {base : Nat} {e : TypeId} {size : Nat} {v : Value} {n : Nat} {xs : List Value} (h : w.ownsRow base e size v n xs) (hk : Keeps (From base) w w') : w'.ownsRow base e size v n xs := by
  refine ⟨h.1, ?_⟩
  rcases h.2 with h0 | ⟨g, cap, cur, hv, hg, hh, hr⟩
  · exact .inl h0
  · refine .inr ⟨g, cap, cur, hv, hg, ?_, hr⟩
    rw [hk.2 g hg]
    · exact hh
    · rcases Nat.lt_or_ge g w.heap.size with h' | h'
      · exact h'
      · rw [Array.getElem?_eq_none h'] at hh; cases hh
theorem chunk_old {zs ys : List Value} {j q sz : Nat} (hl : zs.length = j * sz) (hq : q < j) : ((zs ++ ys).drop (q * sz)).take sz = (zs.drop (q * sz)).take sz := by
  have h1 : (q + 1) * sz ≤ j * sz := Nat.mul_le_mul_right sz hq
  rw [Nat.add_mul, Nat.one_mul] at h1
  rw [List.drop_append_of_le_length (by omega), List.take_append_of_le_length (by rw [List.length_drop]; omega)]
theorem chunk_new {zs ys : List Value} {j sz : Nat} (hl : zs.length = j * sz) (hy : ys.length = sz) : ((zs ++ ys).drop (j * sz)).take sz = ys := by
  rw [← hl, List.drop_left, List.take_of_length_le (by omega)]

/-- The cells of a value and of all that hangs on it. -/
def Tree (ok : Nat → Prop) (w : World) : Nat → List Value → Prop
  | 0, _ => False
  | d + 1, cs => ∃ k i s t A n c B m e xs ys, cs = [.int .i64 k, .int .i64 i, .int .i64 s, .string t, .slice A n c, .slice B m e] ∧
      n * 88 ≤ 140737488355328 ∧ m * 104 ≤ 140737488355328 ∧ Rw ok w 6 A n c xs ∧ Rw ok w 7 B m e ys ∧
      (∀ j, j < n → Tree ok w d ((xs.drop (j * 6)).take 6)) ∧ (∀ j, j < m → ∃ u cs', (ys.drop (j * 7)).take 7 = .string u :: cs' ∧ Tree ok w d cs')
theorem Tree.keep {ok : Nat → Prop} {w w' : World} (hk : Keeps ok w w') : ∀ {d : Nat} {cs : List Value}, Tree ok w d cs → Tree ok w' d cs
  | 0, _, h => h
  | d + 1, cs, h => by
    obtain ⟨k, i, s, t, A, n, c, B, m, e, xs, ys, h0, h1, h2, h3, h4, h5, h6⟩ := h
    exact ⟨k, i, s, t, A, n, c, B, m, e, xs, ys, h0, h1, h2, h3.keep hk, h4.keep hk, fun j hj => (h5 j hj).keep hk, fun j hj => let ⟨u, cs', e', ht⟩ := h6 j hj; ⟨u, cs', e', ht.keep hk⟩⟩
theorem Tree.grow {ok : Nat → Prop} {w w' : World} {d : Nat} {cs : List Value} (h : Tree ok w d cs) (hb : Below w.heap.size w w') : Tree ok w' d cs := h.keep (Keeps.of_below hb)
theorem Tree.mono {ok ok' : Nat → Prop} {w : World} (hk : ∀ b, b < w.heap.size → ok b → ok' b) : ∀ {d : Nat} {cs : List Value}, Tree ok w d cs → Tree ok' w d cs
  | 0, _, h => h
  | d + 1, cs, h => by
    obtain ⟨k, i, s, t, A, n, c, B, m, e, xs, ys, h0, h1, h2, h3, h4, h5, h6⟩ := h
    exact ⟨k, i, s, t, A, n, c, B, m, e, xs, ys, h0, h1, h2, h3.mono (by decide) hk, h4.mono (by decide) hk, fun j hj => (h5 j hj).mono hk, fun j hj => let ⟨u, cs', e', ht⟩ := h6 j hj; ⟨u, cs', e', ht.mono hk⟩⟩
theorem Tree.deeper {ok : Nat → Prop} {w : World} : ∀ {d : Nat} {cs : List Value}, Tree ok w d cs → Tree ok w (d + 1) cs
  | 0, _, h => h.elim
  | d + 1, cs, h => by
    obtain ⟨k, i, s, t, A, n, c, B, m, e, xs, ys, h0, h1, h2, h3, h4, h5, h6⟩ := h
    exact ⟨k, i, s, t, A, n, c, B, m, e, xs, ys, h0, h1, h2, h3, h4, fun j hj => (h5 j hj).deeper, fun j hj => let ⟨u, cs', e', ht⟩ := h6 j hj; ⟨u, cs', e', ht.deeper⟩⟩
theorem Tree.le {ok : Nat → Prop} {w : World} {d d' : Nat} {cs : List Value} (h : Tree ok w d cs) (hd : d ≤ d') : Tree ok w d' cs := by
  induction d' with
  | zero => obtain rfl : d = 0 := by omega
            exact h
  | succ k ih =>
    rcases Nat.lt_or_ge k d with h' | h'
    · obtain rfl : d = k + 1 := by omega
      exact h
    · exact (ih h').deeper
theorem Tree.appended {L : Nat} {v v' : Value} {w w' : World} {d : Nat} {cs : List Value} (h : Tree (Beside L v) w d cs) (hg : w.grownBy w' v.ownBlock) (hob : v'.ownBlock = v.ownBlock ∨ v'.ownBlock = some w.heap.size) : Tree (Beside L v') w' d cs :=
  ((h.mono (ok' := fun b => Beside L v b ∧ Beside L v' b) fun b hb ho => ⟨ho, Tree.beside_later hob hb ho⟩).keep ((Keeps.refl _ _).grown hg fun k hk => .inr fun hx => hx.1.2 hk)).mono fun b _ h => h.2
/-- A row that owns its cells, as data. -/
theorem Rw.of_own {w : World} {base : Nat} {e : TypeId} {sz : Nat} {A : Option Addr} {n c : Nat} {xs : List Value} (h : w.ownsRow base e sz (.slice A n c) n xs) : Rw (From base) w sz A n c xs :=
  ⟨(own_cap h).1, (own_cap h).2, Sl.of_own h, fun _ => OkA.abv (Abv.of_own h)⟩
theorem Tree.zero (ok : Nat → Prop) (w : World) : Tree ok w 1 [.int .i64 0, .int .i64 0, .int .i64 0, .string ⟨#[]⟩, .slice none 0 0, .slice none 0 0] :=
  ⟨0, 0, 0, ⟨#[]⟩, none, 0, 0, none, 0, 0, [], [], rfl, by decide, by decide, Rw.nil _ _ _, Rw.nil _ _ _, fun j hj => absurd hj (by omega), fun j hj => absurd hj (by omega)⟩
end Go.Proofs.YtbafnlccpbonmaaGreatDoor
