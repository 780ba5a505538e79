/- Several channels and their models in memory. -/
import Derived.Test.YtjldpodehffbnaaMod8
import Derived.Test.YtjldpodehffbnaaChan6
namespace Go.Proofs.Ytjldpodehffbnaa
set_option linter.unusedVariables false
set_option linter.unnecessarySimpa false
set_option linter.unusedSimpArgs false
open Go.RowKit

theorem wpL_name {P : Program} {ops : Array Oper} {rest : List Oper} {a : Act} {w : World} {Q : Exit → Act → World → Prop} (D : World → Prop) (h1 : D w) (h2 : ∀ wx, D wx → wpList P ops Q rest a wx) : wpList P ops Q rest a w := h2 w h1
/-- A channel and its model: where they lie, their state. -/
structure PRec where
  b : Nat
  r : Nat
  mb : Nat
  A : Option Addr
  c : Ch
def PRec.has (p : PRec) (x : Nat) : Prop := x = p.b ∨ x = p.r ∨ x = p.mb ∨ ∃ ad, p.A = some ad ∧ ad.block = x
def okS (ok : Nat → Prop) (prs : List PRec) : Nat → Prop := fun x => ok x ∧ ∀ p ∈ prs, ¬ p.has x
def PRecW (ok : Nat → Prop) (L : Nat) (w : World) (p : PRec) : Prop :=
  ChanAt ok w p.b p.r p.c ∧ ModR ok L w p.mb p.c p.A ∧ (L ≤ p.b ∧ L ≤ p.r ∧ L ≤ p.mb) ∧ p.mb ≠ p.b ∧ p.mb ≠ p.r ∧ ∀ ad, p.A = some ad → ad.block ≠ p.b ∧ ad.block ≠ p.r
def PlaysW (ok : Nat → Prop) (L : Nat) (w : World) (prs : List PRec) : Prop :=
  (∀ p ∈ prs, PRecW (okS ok prs) L w p) ∧ prs.Pairwise fun p q => ∀ x, p.has x → ¬ q.has x
theorem ModR.mono {ok ok' : Nat → Prop} {base L : Nat} {w : World} {mb : Nat} {c : Ch} {A : Option Addr} (h : ModR ok base w mb c A) (hk : ∀ x, x < w.heap.size → ok x → ok' x) (hm : ¬ ok' mb) (hL : L ≤ base) : ModR ok' L w mb c A := by
  have hrow := fun ad (e : A = some ad) => (h.rowA e).2.2
  obtain ⟨q, xs, P1, P2, n1, c1, n2, c2, h1, h2, h3, h4, h5, h6, h7⟩ := h
  have hk' : ∀ x, x < w.heap.size → OkM ok A x → OkM ok' A x := fun x hx ho => ⟨hk x hx ho.1, ho.2⟩
  refine ⟨q, xs, P1, P2, n1, c1, n2, c2, h1, ⟨h2.1, h2.2.1, h2.2.2.1, ?_⟩, fun j it hj => (h3 j it hj).mono hk', h4.mono hk', h5.mono hk', fun h => hm h.1, fun ad e => ⟨fun h => h.2 ad e rfl, hrow ad e⟩⟩
  rcases h2.2.2.2 with h | ⟨g, off, e, hg, hr⟩
  · exact .inl h
  · exact .inr ⟨g, off, e, Nat.le_trans hL hg, hr⟩
section
variable {ok ok' : Nat → Prop} {L : Nat} {w w' : World} {p : PRec} {prs : List PRec}
theorem PRecW.in_ (h : PRecW ok L w p) {x : Nat} (hx : p.has x) : L ≤ x ∧ x < w.heap.size := by
  obtain ⟨h1, h2, h3, h4, h5, h6⟩ := h
  have := h1.lt
  rcases hx with rfl | rfl | rfl | ⟨ad, e, rfl⟩
  · exact ⟨h3.1, this.1⟩
  · exact ⟨h3.2.1, this.2⟩
  · obtain ⟨q, P1, P2, n1, c1, n2, c2, hb, _⟩ := h2.box
    exact ⟨h3.2.2, hb.lt⟩
  · exact ⟨(h2.rowA e).1, (h2.rowA e).2.1⟩
theorem PRecW.keep (h : PRecW ok L w p) (hk : Keeps ok w w') (hs : ∀ x, p.has x → w'.heap[x]? = w.heap[x]?) : PRecW ok L w' p := by
  obtain ⟨h1, h2, h3, h4, h5, h6⟩ := h
  exact ⟨h1.keep hk fun x hx => hs x (by rcases hx with h | h; exact .inl h; exact .inr (.inl h)), h2.keep (hk.mono fun x hx => hx.1) (hs _ (.inr (.inr (.inl rfl)))) fun ad e => hs _ (.inr (.inr (.inr ⟨ad, e, rfl⟩))), h3, h4, h5, h6⟩
theorem PRecW.grow (h : PRecW ok L w p) (hb : Below w.heap.size w w') : PRecW ok L w' p := h.keep (Keeps.of_below hb) fun x hx => hb.block x (h.in_ hx).2
theorem PRecW.mono (h : PRecW ok L w p) (hk : ∀ x, x < w.heap.size → ok x → ok' x) (hn : ∀ x, p.has x → ¬ ok' x) : PRecW ok' L w p := by
  obtain ⟨h1, h2, h3, h4, h5, h6⟩ := h
  exact ⟨h1.mono hk (hn _ (.inl rfl)) (hn _ (.inr (.inl rfl))), h2.mono hk (hn _ (.inr (.inr (.inl rfl)))) (Nat.le_refl _), h3, h4, h5, h6⟩
theorem PlaysW.grow (h : PlaysW ok L w prs) (hb : Below w.heap.size w w') : PlaysW ok L w' prs := ⟨fun p hp => (h.1 p hp).grow hb, h.2⟩
theorem PlaysW.in_ (h : PlaysW ok L w prs) (hp : p ∈ prs) {x : Nat} (hx : p.has x) : L ≤ x ∧ x < w.heap.size := (h.1 p hp).in_ hx
/-- Other blocks change. -/
theorem PlaysW.keep (h : PlaysW ok L w prs) (hk : Keeps (okS ok prs) w w') (hs : ∀ p ∈ prs, ∀ x, p.has x → w'.heap[x]? = w.heap[x]?) : PlaysW ok L w' prs := ⟨fun p hp => (h.1 p hp).keep hk (hs p hp), h.2⟩
theorem PlaysW.mono (h : PlaysW ok L w prs) (hk : ∀ x, x < w.heap.size → ok x → ok' x) : PlaysW ok' L w prs :=
  ⟨fun p hp => (h.1 p hp).mono (fun x hx ho => ⟨hk x hx ho.1, ho.2⟩) fun x hx ho => ho.2 p hp hx, h.2⟩
theorem PlaysW.nil (ok : Nat → Prop) (L : Nat) (w : World) : PlaysW ok L w [] := ⟨fun p hp => (List.not_mem_nil hp).elim, List.Pairwise.nil⟩
/-- One more. -/
theorem PlaysW.add {base b r mb : Nat} {c : Ch} {A : Option Addr} (h : PlaysW ok L w prs) (hb : Below w.heap.size w w') (hP : PlayW (okS ok prs) base w' b r mb c c A) (h1 : w.heap.size ≤ b ∧ w.heap.size ≤ r ∧ w.heap.size ≤ mb ∧ w.heap.size ≤ base) (hL : L ≤ w.heap.size) :
    PlaysW ok L w' (prs ++ [⟨b, r, mb, A, c⟩]) := by
  have hnew : ∀ x, PRec.has ⟨b, r, mb, A, c⟩ x → w.heap.size ≤ x := fun x hx => by
    rcases hx with rfl | rfl | rfl | ⟨ad, e, rfl⟩
    · exact h1.1
    · exact h1.2.1
    · exact h1.2.2.1
    · have := hP.row ad e; omega
  refine ⟨fun p hp => ?_, ?_⟩
  · rcases List.mem_append.1 hp with hp | hp
    · refine ((h.1 p hp).mono (ok' := okS ok (prs ++ [⟨b, r, mb, A, c⟩])) (fun x hx ho => ⟨ho.1, fun q hq => ?_⟩) fun x hx ho => ho.2 p (List.mem_append_left _ hp) hx).grow hb
      rcases List.mem_append.1 hq with hq | hq
      · exact ho.2 q hq
      · rw [List.mem_singleton] at hq
        subst hq
        exact fun hh => by have := hnew x hh; omega
    · rw [List.mem_singleton] at hp
      subst hp
      have hk : ∀ x, x < w'.heap.size → OkM (okP b r mb (okS ok prs)) A x → okS ok (prs ++ [⟨b, r, mb, A, c⟩]) x := fun x hx ho => ⟨ho.1.1.1, fun q hq => by
        rcases List.mem_append.1 hq with hq | hq
        · exact ho.1.1.2 q hq
        · rw [List.mem_singleton] at hq
          subst hq
          intro hh
          rcases hh with rfl | rfl | rfl | ⟨ad, e, rfl⟩
          · exact ho.1.2.1 rfl
          · exact ho.1.2.2.1 rfl
          · exact ho.1.2.2.2 rfl
          · exact ho.2 ad e rfl⟩
      have hself : ∀ x, PRec.has ⟨b, r, mb, A, c⟩ x → ¬ okS ok (prs ++ [⟨b, r, mb, A, c⟩]) x := fun x hx ho => ho.2 _ (List.mem_append_right _ (List.mem_singleton.2 rfl)) hx
      obtain ⟨g1, g2, g3, g4⟩ := hP
      refine ⟨g1.mono hk (hself _ (.inl rfl)) (hself _ (.inr (.inl rfl))), ?_, ⟨by show L ≤ b; omega, by show L ≤ r; omega, by show L ≤ mb; omega⟩, g3.2.2.2.1, g3.2.2.2.2.1, fun ad e => ?_⟩
      · -- the model: its data lie outside of the row in any case
        have hrow := fun ad (e : A = some ad) => (g2.rowA e).2.2
        obtain ⟨q, xs, P1, P2, n1, c1, n2, c2, k1, k2, k3, k4, k5, k6, k7⟩ := g2
        have hk' : ∀ x, x < w'.heap.size → OkM (okP b r mb (okS ok prs)) A x → OkM (okS ok (prs ++ [⟨b, r, mb, A, c⟩])) A x := fun x hx ho => ⟨hk x hx ho, ho.2⟩
        refine ⟨q, xs, P1, P2, n1, c1, n2, c2, k1, ⟨k2.1, k2.2.1, k2.2.2.1, ?_⟩, fun j it hj => (k3 j it hj).mono hk', k4.mono hk', k5.mono hk', fun h => hself _ (.inr (.inr (.inl rfl))) h.1, fun ad e => ⟨fun h => h.2 ad e rfl, hrow ad e⟩⟩
        rcases k2.2.2.2 with h | ⟨g, off, e, hg, hr⟩
        · exact .inl h
        · exact .inr ⟨g, off, e, by omega, hr⟩
      · have := (g2.rowA e).1
        show ad.block ≠ b ∧ ad.block ≠ r
        omega
  · rw [List.pairwise_append]
    refine ⟨h.2, List.pairwise_singleton _ _, fun p hp q hq x hx => ?_⟩
    rw [List.mem_singleton] at hq
    subst hq
    intro hh
    have := hnew x hh
    have := (h.in_ hp hx).2
    omega
end
end Go.Proofs.Ytjldpodehffbnaa
