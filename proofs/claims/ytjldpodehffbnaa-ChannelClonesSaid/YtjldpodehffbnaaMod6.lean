/- A channel and its model in step: plain facts, and how they lie beside one another. -/
import Derived.Test.YtjldpodehffbnaaMod5
import Derived.Test.YtjldpodehffbnaaCOrd1
namespace Go.Proofs.Ytjldpodehffbnaa
set_option linter.unusedVariables false
set_option linter.unnecessarySimpa false
set_option linter.unusedSimpArgs false
open Go.RowKit

/-- The states that a channel can come to. -/
inductive Made (K : Nat) : Ch → Prop
  | new : Made K (ch0 K)
  | put {c : Ch} (z : Bool) (it : It) : Made K c → Made K (putC (chkI z it) c it).2
  | adv {c : Ch} (e : Int) (p : List Int) : Made K c → Made K (advC c e p).2
  | take {c : Ch} {it : It} {l : List It} : Made K c → c.items = it :: l → Made K { c with items := l }
theorem chkI_entry {z : Bool} {it : It} (h : chkI z it = 0) : 1 ≤ it.e ∧ it.e ≤ 1048576 := by
  unfold chkI at h
  split at h
  · cases h
  · unfold checkS at h
    split at h
    · cases h
    · omega
theorem Made.base {K : Nat} {c : Ch} (h : Made K c) : c.cap = K ∧ c.items.length ≤ K ∧ (c.used = false → c.le = 0 ∧ c.lp = []) := by
  induction h with
  | new => exact ⟨rfl, Nat.zero_le _, fun _ => ⟨rfl, rfl⟩⟩
  | put z it h ih =>
    unfold putC
    split
    · exact ih
    · split
      · exact ih
      · split
        · exact ih
        · refine ⟨ih.1, ?_, fun h => by cases h⟩
          have := ih.1
          have := ih.2.1
          simp
          omega
  | adv e p h ih =>
    unfold advC
    split
    · exact ih
    · exact ih
  | take h hl ih =>
    rw [hl] at ih
    refine ⟨ih.1, ?_, ih.2.2⟩
    have := ih.2.1
    rw [List.length_cons] at this
    exact Nat.le_of_succ_le this
theorem Made.putM {K : Nat} {c : Ch} (h : Made K c) (z : Bool) (it : It) : putM (chkI z it) c it = putC (chkI z it) c it := by
  obtain ⟨h1, h2, h3⟩ := h.base
  unfold Go.Proofs.Ytjldpodehffbnaa.putM putC
  by_cases h0 : chkI z it = 0
  · have he := (chkI_entry h0).1
    have hc : (cmpS it.e it.p c.me c.mp < 0 ∨ cmpS it.e it.p c.le c.lp ≤ 0) ↔ (cmpS it.e it.p c.me c.mp < 0 ∨ c.used = true ∧ cmpS it.e it.p c.le c.lp ≤ 0) := by
      cases hu : c.used
      · obtain ⟨h4, h5⟩ := h3 hu
        rw [h4, h5, cmpS_ne (show it.e ≠ 0 by omega), cmpI_gt (show (0 : Int) < it.e by omega)]
        simp
      · simp
    have hl : (c.cap ≤ c.items.length) ↔ (c.items.length = c.cap) := by omega
    simp only [hc, hl]
  · rw [if_pos h0, if_pos h0]

/-- Data outside of the structs. -/
def okP (b r mb : Nat) (ok : Nat → Prop) : Nat → Prop := fun x => ok x ∧ x ≠ b ∧ x ≠ r ∧ x ≠ mb
/-- A channel and its model: their states c1 and c2. -/
def PlayW (ok : Nat → Prop) (base : Nat) (w : World) (b r mb : Nat) (c1 c2 : Ch) (A : Option Addr) : Prop :=
  ChanAt (OkM (okP b r mb ok) A) w b r c1 ∧ ModR (okP b r mb ok) base w mb c2 A ∧ (b < base ∧ r < base ∧ mb < base ∧ mb ≠ b ∧ mb ≠ r ∧ base ≤ w.heap.size) ∧ ∀ x, base ≤ x → ok x
section
variable {ok : Nat → Prop} {base : Nat} {w w' : World} {b r mb : Nat} {c c' c1 c2 : Ch} {A A' : Option Addr}
theorem ModR.row (h : ModR ok base w mb c A) {k : Nat} (e : A.map (·.block) = some k) : base ≤ k ∧ k < w.heap.size ∧ k ≠ mb := by
  obtain ⟨q, xs, P1, P2, n1, c1, n2, c2, h⟩ := h
  rcases h.2.1.2.2.2 with ⟨e', _⟩ | ⟨g, off, e', hg, hl, _⟩
  · rw [e'] at e; cases e
  · have := (h.2.2.2.2.2.2 _ e').2
    rw [e'] at e; cases e
    exact ⟨hg, hl, this⟩
theorem ModR.rowA (h : ModR ok base w mb c A) {ad : Addr} (e : A = some ad) : base ≤ ad.block ∧ ad.block < w.heap.size ∧ ad.block ≠ mb := h.row (by rw [e]; rfl)
theorem ModR.keep (h : ModR ok base w mb c A) (hk : Keeps (OkM ok A) w w') (hm : w'.heap[mb]? = w.heap[mb]?) (hA : ∀ ad, A = some ad → w'.heap[ad.block]? = w.heap[ad.block]?) : ModR ok base w' mb c A := by
  obtain ⟨q, xs, P1, P2, n1, c1, n2, c2, h1, h2, h3, h4, h5, h6, h7⟩ := h
  exact ⟨q, xs, P1, P2, n1, c1, n2, c2, h1.block hk.1 hm, h2.block hk.1 hA, fun j it hj => (h3 j it hj).keep hk, h4.keep hk, h5.keep hk, h6, h7⟩
theorem PlayW.fresh (h : PlayW ok base w b r mb c1 c2 A) : ∀ x, w.heap.size ≤ x → OkM (okP b r mb ok) A x := fun x hx => by
  obtain ⟨h1, h2, h3, h4⟩ := h
  exact ⟨⟨h4 x (by omega), by omega, by omega, by omega⟩, fun ad e => by have := h2.rowA e; omega⟩
theorem PlayW.freshP (h : PlayW ok base w b r mb c1 c2 A) : ∀ x, w.heap.size ≤ x → okP b r mb ok x := fun x hx => (h.fresh x hx).1
/-- An operation of the channel. -/
theorem PlayW.chan (h : PlayW ok base w b r mb c1 c2 A) (hc : Chg b r w w') (hC : ChanAt (OkM (okP b r mb ok) A) w' b r c') : PlayW ok base w' b r mb c' c2 A := by
  obtain ⟨h1, h2, h3, h4⟩ := h
  have hs := hc.size
  refine ⟨hC, h2.keep (hc.keeps (fun h => h.1.2.1 rfl) (fun h => h.1.2.2.1 rfl)) (hc.2.2 _ ⟨h3.2.2.2.1, h3.2.2.2.2.1⟩ (by omega)) (fun ad e => hc.2.2 _ ?_ (h2.rowA e).2.1), by omega, h4⟩
  have := h2.rowA e
  omega
/-- An operation of the model. -/
theorem PlayW.model (h : PlayW ok base w b r mb c1 c2 A) (hc : MChg mb A w w') (hA : A'.map (·.block) = A.map (·.block) ∨ ∃ g, A'.map (·.block) = some g ∧ w.heap.size ≤ g) (hM : ModR (okP b r mb ok) base w' mb c' A') : PlayW ok base w' b r mb c1 c' A' := by
  obtain ⟨h1, h2, h3, h4⟩ := h
  have hs := hc.1.size
  have hlt := h1.lt
  have hup : ∀ x, x < w.heap.size → OkM (okP b r mb ok) A x → OkM (okP b r mb ok) A x ∧ OkM (okP b r mb ok) A' x := fun x hx ho => ⟨ho, ho.1, fun ad e => by
    rcases hA with h | ⟨g, h, hg⟩
    · rw [e] at h
      rcases A with _ | ad'
      · cases h
      · have := ho.2 _ rfl
        simp at h
        rw [h]; exact this
    · rw [e] at h; simp at h; omega⟩
  have hk : Keeps (fun x => OkM (okP b r mb ok) A x ∧ OkM (okP b r mb ok) A' x) w w' := hc.2.mono fun x hx => ⟨hx.1.1.2.2.2, fun ad e => hx.1.2 ad e⟩
  refine ⟨?_, hM, by omega, h4⟩
  exact ((h1.mono hup (fun h => h.1.1.2.1 rfl) (fun h => h.1.1.2.2.1 rfl)).keep hk fun x hx => hc.2.2 x ⟨by omega, fun ad e => by have := h2.rowA e; omega⟩ (by omega)).mono (fun _ _ h => h.2) (fun h => h.1.2.1 rfl) (fun h => h.1.2.2.1 rfl)
theorem PlayW.grow (h : PlayW ok base w b r mb c1 c2 A) (hb : Below w.heap.size w w') : PlayW ok base w' b r mb c1 c2 A := h.chan (Chg.of_below hb) (h.1.grow hb)
theorem MChg.below {L : Nat} (h : MChg mb A w w') (hb : L ≤ mb) (hA : ∀ ad, A = some ad → L ≤ ad.block) (hL : L ≤ w.heap.size) : Below L w w' :=
  ⟨h.1.os, h.1.tape, h.1.output, h.1.size, fun k hk => h.2.2 k ⟨by omega, fun ad e => by have := hA ad e; omega⟩ (by omega)⟩
end
end Go.Proofs.Ytjldpodehffbnaa
