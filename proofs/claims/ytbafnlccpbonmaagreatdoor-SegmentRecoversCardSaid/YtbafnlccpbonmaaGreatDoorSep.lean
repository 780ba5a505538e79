/- Things in memory that own their blocks: a step changes one of them and leaves the others. -/
import Derived.Test.YtbafnlccpbonmaaGreatDoorGMl
namespace Go.Proofs.YtbafnlccpbonmaaGreatDoor
set_option linter.unusedVariables false
set_option linter.unnecessarySimpa false
set_option linter.unusedSimpArgs false
open Go.RowKit

abbrev Thing := (Nat → Prop) → World → Prop
/-- What a thing is depends on its own blocks alone. -/
structure Frm (X : Thing) : Prop where
  lt : ∀ {S : Nat → Prop} {w : World} {x : Nat}, X S w → S x → x < w.heap.size
  keep : ∀ {S : Nat → Prop} {w w' : World}, X S w → w.heap.size ≤ w'.heap.size → (∀ x, S x → w'.heap[x]? = w.heap[x]?) → X S w'
def star (X Y : Thing) : Thing := fun S w => ∃ A B, X A w ∧ Y B w ∧ (∀ x, A x → ¬ B x) ∧ ∀ x, S x ↔ A x ∨ B x
/-- A thing that was made since w0. -/
def Own (w0 w : World) (X : Thing) : Prop := ∃ S, X S w ∧ (∀ x, S x → w0.heap.size ≤ x) ∧ Below w0.heap.size w0 w
/-- What a step on a thing with the blocks S leaves. -/
def RetT (X : Thing) (S : Nat → Prop) (w w' : World) : Prop := ∃ S', X S' w' ∧ (∀ x, S' x → S x ∨ w.heap.size ≤ x) ∧ DChg S w w'
section
variable {X X' Y Z : Thing} {w0 w w' : World}
theorem Frm.star (hX : Frm X) (hY : Frm Y) : Frm (star X Y) := by
  refine ⟨fun {S w x} h hx => ?_, fun {S w w'} h hs hk => ?_⟩
  · obtain ⟨A, B, h1, h2, h3, h4⟩ := h
    rcases (h4 x).1 hx with h5 | h5
    · exact hX.lt h1 h5
    · exact hY.lt h2 h5
  · obtain ⟨A, B, h1, h2, h3, h4⟩ := h
    exact ⟨A, B, hX.keep h1 hs fun x hx => hk x ((h4 x).2 (.inl hx)), hY.keep h2 hs fun x hx => hk x ((h4 x).2 (.inr hx)), h3, h4⟩
theorem Frm.grow (hX : Frm X) {S : Nat → Prop} (h : X S w) (hb : Below w.heap.size w w') : X S w' := hX.keep h hb.size fun x hx => hb.block x (hX.lt h hx)
theorem Own.below (h : Own w0 w X) : Below w0.heap.size w0 w := h.choose_spec.2.2
theorem Own.grow (hX : Frm X) (h : Own w0 w X) (hb : Below w.heap.size w w') : Own w0 w' X := by
  obtain ⟨S, h1, h2, h3⟩ := h
  exact ⟨S, hX.grow h1 hb, h2, G.trans h3 hb⟩
theorem Own.swap (h : Own w0 w (star X Y)) : Own w0 w (star Y X) := by
  obtain ⟨S, ⟨A, B, h1, h2, h3, h4⟩, h5, h6⟩ := h
  exact ⟨S, ⟨B, A, h2, h1, fun x hx hy => h3 x hy hx, fun x => (h4 x).trans Or.comm⟩, h5, h6⟩
theorem Own.assoc (h : Own w0 w (star (star X Y) Z)) : Own w0 w (star X (star Y Z)) := by
  obtain ⟨S, ⟨A, B, ⟨C, D, h1, h2, h3, h4⟩, h5, h6, h7⟩, h8, h9⟩ := h
  refine ⟨S, ⟨C, fun x => D x ∨ B x, h1, ⟨D, B, h2, h5, fun x hx => h6 x ((h4 x).2 (.inr hx)), fun x => Iff.rfl⟩, fun x hx hy => ?_, fun x => ?_⟩, h8, h9⟩
  · rcases hy with hy | hy
    · exact h3 x hx hy
    · exact h6 x ((h4 x).2 (.inl hx)) hy
  · rw [h7, h4]
    exact or_assoc
theorem Own.assoc' (h : Own w0 w (star X (star Y Z))) : Own w0 w (star (star X Y) Z) := by
  have := h.swap
  obtain ⟨S, ⟨A, B, ⟨C, D, h1, h2, h3, h4⟩, h5, h6, h7⟩, h8, h9⟩ := this
  refine ⟨S, ⟨fun x => B x ∨ C x, D, ⟨B, C, h5, h1, fun x hx hy => h6 x ((h4 x).2 (.inl hy)) hx, fun x => Iff.rfl⟩, h2, fun x hx hy => ?_, fun x => ?_⟩, h8, h9⟩
  · rcases hx with hx | hx
    · exact h6 x ((h4 x).2 (.inr hy)) hx
    · exact h3 x hx hy
  · rw [h7, h4]
    constructor
    · rintro ((h | h) | h)
      · exact .inl (.inr h)
      · exact .inr h
      · exact .inl (.inl h)
    · rintro ((h | h) | h)
      · exact .inr h
      · exact .inl (.inl h)
      · exact .inl (.inr h)
/-- A step on one thing beside another. -/
theorem Own.step (hX : Frm X) (hY : Frm Y) (h : Own w0 w (star X Y)) : ∃ S, X S w ∧ (∀ x, S x → w0.heap.size ≤ x) ∧ ∀ (X' : Thing) (w' : World), RetT X' S w w' → Own w0 w' (star X' Y) := by
  obtain ⟨S, ⟨A, B, h1, h2, h3, h4⟩, h5, h6⟩ := h
  refine ⟨A, h1, fun x hx => h5 x ((h4 x).2 (.inl hx)), fun X' w' hr => ?_⟩
  obtain ⟨A', k1, k2, k3⟩ := hr
  have hs := h6.size
  refine ⟨fun x => A' x ∨ B x, ⟨A', B, k1, hY.keep h2 k3.size fun x hx => k3.2.2 x (fun hh => h3 x hh hx) (hY.lt h2 hx), fun x hx hy => ?_, fun x => Iff.rfl⟩, fun x hx => ?_, below_chg h6 (fun x hx => h5 x ((h4 x).2 (.inl hx))) k3⟩
  · rcases k2 x hx with h7 | h7
    · exact h3 x h7 hy
    · have := hY.lt h2 hy
      omega
  · rcases hx with hx | hx
    · rcases k2 x hx with h7 | h7
      · exact h5 x ((h4 x).2 (.inl h7))
      · omega
    · exact h5 x ((h4 x).2 (.inr hx))
theorem Own.step1 (hX : Frm X) (h : Own w0 w X) : ∃ S, X S w ∧ (∀ x, S x → w0.heap.size ≤ x) ∧ ∀ (X' : Thing) (w' : World), RetT X' S w w' → Own w0 w' X' := by
  obtain ⟨S, h1, h5, h6⟩ := h
  refine ⟨S, h1, h5, fun X' w' hr => ?_⟩
  obtain ⟨A', k1, k2, k3⟩ := hr
  have hs := h6.size
  exact ⟨A', k1, fun x hx => by
    rcases k2 x hx with h7 | h7
    · exact h5 x h7
    · omega, below_chg h6 h5 k3⟩
/-- A new thing. -/
theorem Own.add (hX : Frm X) (h : Own w0 w X) (hb : Below w.heap.size w w') {M : Nat → Prop} (hM : Y M w') (hl : ∀ x, M x → w.heap.size ≤ x) : Own w0 w' (star X Y) := by
  obtain ⟨S, h1, h5, h6⟩ := h
  have hs := h6.size
  refine ⟨fun x => S x ∨ M x, ⟨S, M, hX.grow h1 hb, hM, fun x hx hy => ?_, fun x => Iff.rfl⟩, fun x hx => ?_, G.trans h6 hb⟩
  · have := hX.lt h1 hx
    have := hl x hy
    omega
  · rcases hx with hx | hx
    · exact h5 x hx
    · have := hl x hx
      omega
theorem Own.left (h : Own w0 w (star X Y)) : Own w0 w X := by
  obtain ⟨S, ⟨A, B, h1, h2, h3, h4⟩, h5, h6⟩ := h
  exact ⟨A, h1, fun x hx => h5 x ((h4 x).2 (.inl hx)), h6⟩
theorem Own.right (h : Own w0 w (star X Y)) : Own w0 w Y := h.swap.left
end
/-! ### devices and logs -/
def devT (d : Nat) (s : Ds) : Thing := fun S w => DevW w d S s
def logT (d L : Nat) (l : Lg) : Thing := fun T w => LogW w L d T l
theorem devT_frm (d : Nat) (s : Ds) : Frm (devT d s) := ⟨fun h hx => h.lt hx, fun {S w w'} h hs hk => h.keep hs hk⟩
theorem logT_frm (d L : Nat) (l : Lg) : Frm (logT d L l) := ⟨fun h hx => h.lt hx, fun {S w w'} h hs hk => h.keep hs hk⟩
section
variable {w0 w w' : World} {d L : Nat} {s s' t : Ds} {l l' : Lg} {Y : Thing}
theorem LX.retT {S T : Nat → Prop} (h : LX w S T w' d L s l) : RetT (star (devT d s) (logT d L l)) (fun x => S x ∨ T x) w w' := by
  obtain ⟨⟨S', T', h1, h2, h3, h4, h5⟩, hc⟩ := h
  refine ⟨fun x => S' x ∨ T' x, ⟨S', T', h1, h2, h3, fun x => Iff.rfl⟩, fun x hx => ?_, hc⟩
  rcases hx with hx | hx
  · exact (h4 x hx).imp .inl id
  · exact (h5 x hx).imp .inr id
/-- A call on a log and its device, beside other things. -/
theorem Own.log (hp : Pow10 w0) (hY : Frm Y) {n : Nat} {a : Array Value} {Q : Ending → Prop} (h : Own w0 w (star (star (devT d s) (logT d L l)) Y))
    (hc : ∀ S T, EnvL w S T → LX w S T w d L s l → Calls Tryz.prog n a w fun e w' => Q e ∧ LX w S T w' d L s' l') : Calls Tryz.prog n a w fun e w' => Q e ∧ Own w0 w' (star (star (devT d s') (logT d L l')) Y) := by
  have hb := h.below
  obtain ⟨M, ⟨S, T, h1, h2, h3, h4⟩, h5, h6⟩ := h.step ((devT_frm d s).star (logT_frm d L l)) hY
  have hlt := hp.lt
  have hE : EnvL w S T := ⟨hp.grow hb, fun hx => by have := h5 _ ((h4 _).2 (.inl hx)); omega, fun hx => by have := h5 _ ((h4 _).2 (.inr hx)); omega⟩
  refine (hc S T hE (LX.start h1 h2 h3)).mono fun e w' hh => ⟨hh.1, h6 _ _ ?_⟩
  obtain ⟨M', k1, k2, k3⟩ := hh.2.retT
  exact ⟨M', k1, fun x hx => (k2 x hx).imp (h4 x).2 id, k3.mono fun x hx => (h4 x).2 hx⟩
/-- A call on a device, beside other things. -/
theorem Own.dev (hY : Frm Y) {n : Nat} {a : Array Value} {Q : Ending → Prop} (h : Own w0 w (star (devT d s) Y)) (hc : ∀ S, DevW w d S s → Calls Tryz.prog n a w fun e w' => Q e ∧ RetD d S s' w w') :
    Calls Tryz.prog n a w fun e w' => Q e ∧ Own w0 w' (star (devT d s') Y) := by
  obtain ⟨S, h1, h5, h6⟩ := h.step (devT_frm d s) hY
  exact (hc S h1).mono fun e w' hh => ⟨hh.1, h6 _ _ hh.2⟩
end
end Go.Proofs.YtbafnlccpbonmaaGreatDoor
