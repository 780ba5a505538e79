/- Many things side by side; two logs on one device. -/
import Derived.Test.YtbafnlccpbonmaaGreatDoorLg2
namespace Go.Proofs.YtbafnlccpbonmaaGreatDoor
set_option linter.unusedVariables false
set_option linter.unnecessarySimpa false
set_option linter.unusedSimpArgs false
open Go.RowKit

def emp : Thing := fun S w => ∀ x, ¬ S x
def stars : List Thing → Thing
  | [] => emp
  | x :: l => star x (stars l)
theorem star_left {X Y Z : Thing} {S : Nat → Prop} {w : World} (h : star X (star Y Z) S w) : star Y (star X Z) S w := by
  obtain ⟨A, B, h1, ⟨C, D, h2, h3, h4, h5⟩, h6, h7⟩ := h
  refine ⟨C, fun x => A x ∨ D x, h2, ⟨A, D, h1, h3, fun x hx hy => h6 x hx ((h5 x).2 (.inr hy)), fun x => Iff.rfl⟩, fun x hx hy => ?_, fun x => ?_⟩
  · rcases hy with hy | hy
    · exact h6 x hy ((h5 x).2 (.inl hx))
    · exact h4 x hx hy
  · rw [h7, h5]
    constructor
    · rintro (h | h | h)
      · exact .inr (.inl h)
      · exact .inl h
      · exact .inr (.inr h)
    · rintro (h | h | h)
      · exact .inr (.inl h)
      · exact .inl h
      · exact .inr (.inr h)
theorem stars_perm {l l' : List Thing} (h : l.Perm l') : ∀ {S : Nat → Prop} {w : World}, stars l S w → stars l' S w := by
  induction h with
  | nil => exact fun h => h
  | cons x _ ih =>
    intro S w h
    obtain ⟨A, B, h1, h2, h3, h4⟩ := h
    exact ⟨A, B, h1, ih h2, h3, h4⟩
  | swap x y l => exact fun h => star_left h
  | trans _ _ ih1 ih2 => exact fun h => ih2 (ih1 h)
theorem Own.perm {w0 w : World} {l l' : List Thing} (h : Own w0 w (stars l)) (hp : l.Perm l') : Own w0 w (stars l') := by
  obtain ⟨S, h1, h2⟩ := h
  exact ⟨S, stars_perm hp h1, h2⟩
theorem stars_frm : ∀ {l : List Thing}, (∀ x ∈ l, Frm x) → Frm (stars l)
  | [], _ => ⟨fun h hx => absurd hx (h _), fun h _ _ => h⟩
  | x :: l, h => (h x (List.mem_cons_self ..)).star (stars_frm fun y hy => h y (List.mem_cons_of_mem _ hy))
section
variable {w0 w w' : World} {X Y : Thing} {p b : Nat} {sh sh' : Sh} {cs : List Value} {l : List Thing}
theorem Own.one (h : Own w0 w X) : Own w0 w (stars [X]) := by
  obtain ⟨S, h1, h2⟩ := h
  exact ⟨S, ⟨S, fun _ => False, h1, fun x hx => hx, fun x hx hy => hy, fun x => ⟨.inl, fun h => h.elim id False.elim⟩⟩, h2⟩
/-- A step on the first one. -/
theorem Own.mod1 (hY : Frm Y) {n : Nat} {a : Array Value} {Q : Ending → Prop} (h : Own w0 w (star (shT p sh) Y)) (hc : ∀ S0, ShX w w p S0 sh → Calls Tryz.prog n a w fun e w' => Q e ∧ ShX w w' p S0 sh') :
    Calls Tryz.prog n a w fun e w' => Q e ∧ Own w0 w' (star (shT p sh') Y) := by
  obtain ⟨S, h1, h2, h3⟩ := h.step (shT_frm p sh) hY
  exact (hc S (ShX.start h1)).mono fun e w' hh => ⟨hh.1, h3 _ _ hh.2.ret⟩
/-- A cell of a block is written. -/
theorem Own.put1 {i : Nat} {v : Value} {cs' : List Value} (hY : Frm Y) (h : Own w0 w (star (boxT b cs) Y)) (he : cs.set i v = cs') : Own w0 (w.setCell ⟨b, i, none⟩ v) (star (boxT b cs') Y) := by
  obtain ⟨S, h1, h2, h3⟩ := h.step (boxT_frm b cs) hY
  refine h3 _ _ ⟨S, ⟨h1.1.put he, h1.2⟩, fun x hx => .inl hx, ((DChg.refl S w).setCell ((h1.2 b).2 rfl) _ _)⟩
theorem Own.box1 (h : Own w0 w (star (boxT b cs) Y)) : Bx w b cs := h.left.choose_spec.1.1
theorem Own.new1 (hX : Frm X) (h : Own w0 w X) (hb : Below w.heap.size w w') {M : Nat → Prop} (hM : Y M w') (hl : ∀ x, M x → w.heap.size ≤ x) : Own w0 w' (star Y X) := (h.add hX hb hM hl).swap
end
/-! ### two names -/
def kl : List UInt8 := [108, 111, 103, 115]
def kx : List UInt8 := [108, 111, 103, 45, 120]
theorem fileL_len (nm : List UInt8) (x : Nat) : (fileL nm x).length = nm.length + 9 := by unfold fileL; rw [List.length_append, List.length_cons, digL_len]
theorem ownF_len {nm m : List UInt8} (h : OwnF nm m) : m.length = nm.length + 9 := by
  obtain ⟨x, _, rfl⟩ := h
  exact fileL_len nm x
theorem own_apart {a b m : List UInt8} (h : a.length ≠ b.length) (hm : OwnF a m) : ¬ OwnF b m := fun hb => by
  have := ownF_len hm
  have := ownF_len hb
  omega
section
variable {nm nm2 : List UInt8} {s t : Ds} {l : Lg} {R : List (List UInt8)} {n : Nat} {g : List (List (List UInt8))} {a b c : Nat}
/-- What happens to one log's files leaves the other log as it was. -/
theorem Pl.other (h : Pl nm s l R n g) (hs : Stp (OwnF nm2) a b c s t) (hu : t.down = false) (hd : nm.length ≠ nm2.length) : Pl nm t l R n g :=
  h.step hs hu ⟨h.inv.nam, h.inv.lim, h.inv.parts, h.inv.dur0, h.inv.fls.congr fun m hm => hs.rest m (own_apart hd hm)⟩
/-- .. and the third file. -/
theorem Stp.third (hs : Stp (OwnF nm2) a b c s t) (hd : nm2.length ≠ nm.length - 9 ∨ nm.length < 9) : lkC t.fs nm = lkC s.fs nm := hs.rest nm fun h => by have := ownF_len h; omega
end
def ka1 : Ds := ⟨1048576, false, false, -1, [⟨kx, [], 0⟩]⟩
def ka2 : Ds := ⟨1048576, false, false, -2, [⟨kx, [97, 98, 99], 0⟩]⟩
theorem kac1 : createD (newD 1048576) kx = (0, ka1) := by kernel_rfl
theorem kac2 : appendD ka1 kx [97, 98, 99] = (0, ka2) := by kernel_rfl
theorem ka1g : ka1.Good := by
  have := create_good (new_good (n := 1048576) (by decide) (by decide)) kx
  rw [kac1] at this
  exact this
theorem ka2g : ka2.Good := by
  have := append_good ka1g kx [97, 98, 99]
  rw [kac2] at this
  exact this
theorem ka2n : NmL ka2.fs := fun f hf => by
  unfold ka2 at hf
  simp at hf
  subst hf
  decide
theorem ka2no {nm : List UInt8} (hn : nm.length ≤ 50) (m : List UInt8) (h : OwnF nm m) : lkC ka2.fs m = none := by
  have hl := ownF_len h
  have : m ≠ kx := fun e => by
    subst e
    have h2 : kx.length = 5 := rfl
    omega
  unfold lkC ka2
  rw [List.find?_cons]
  have : (kx == m) = false := by rw [beq_eq_false_iff_ne]; exact fun e => this e.symm
  rw [this]
  rfl
end Go.Proofs.YtbafnlccpbonmaaGreatDoor
