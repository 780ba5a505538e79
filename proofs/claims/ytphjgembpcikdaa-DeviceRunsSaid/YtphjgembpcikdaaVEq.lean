/- device laws: Equal (plain), and several devices: Clone, Start, Equal. -/
import Derived.Test.YtphjgembpcikdaaVDs
import Derived.Test.YtphjgembpcikdaaDevI
import Derived.Test.YtphjgembpcikdaaDevJ
namespace Go.Proofs.Ytphjgembpcikdaa
set_option linter.unusedVariables false
set_option linter.unnecessarySimpa false
set_option linter.unusedSimpArgs false
open Go.RowKit

theorem eqFl_refl (f : Fl) : eqFl f f = true := by unfold eqFl; simp
theorem lk_mem {l : List Fl} (hu : Uq l) {f : Fl} (h : f ∈ l) : lkC l f.name = some f := by
  rcases hl : lkC l f.name with _ | y
  · exact absurd rfl (lkC_none hl f h)
  · obtain ⟨hy, hyn⟩ := lkC_some hl
    obtain ⟨i, hi, rfl⟩ := List.getElem_of_mem h
    obtain ⟨j, hj, rfl⟩ := List.getElem_of_mem hy
    rcases Nat.lt_trichotomy i j with hij | rfl | hij
    · exact absurd hyn.symm (List.pairwise_iff_getElem.1 hu i j hi hj hij)
    · rfl
    · exact absurd hyn (List.pairwise_iff_getElem.1 hu j i hj hi hij)
theorem eqFs_refl {l : List Fl} (h : Uq l) : eqFs l l = true := by
  unfold eqFs
  rw [decide_eq_true rfl, Bool.true_and, List.all_eq_true]
  intro f hf
  unfold hasEq
  rw [lk_mem h hf]
  exact eqFl_refl f
theorem eqD_refl {s : Ds} (h : s.Good) : eqD s s = true := by
  unfold eqD limE
  rw [eqFs_refl h.uq]
  simp
theorem eqD_down {s t : Ds} (h : (s.down == t.down) = false) : eqD s t = false := by
  unfold eqD
  rw [h]
  simp
theorem start_up {s : Ds} (h : s.down = false) (ch : List UInt8) : startD s ch = s := by
  unfold startD
  rw [h]
  rfl
section
variable {w0 w w' : World} {l : List (Nat × Ds)} {p q : Nat × Ds} {i j : Nat} {s' : Ds}
theorem FDs.clone (h : FDs w0 w l) (hp : l[i]? = some p) (ho : p.2.Ok) : Calls Try.prog 30 #[.pointer (some ⟨p.1, 0, none⟩)] w fun e w' => ∃ c, e = .returned (.pointer (some ⟨c, 0, none⟩)) ∧ FDs w0 w' ((c, p.2) :: l) := by
  obtain ⟨S, h1, _⟩ := h.at_ hp
  refine (clone_dev h1 ho).mono ?_
  rintro e w' ⟨c, T, rfl, h2, h3, h4⟩
  exact ⟨c, rfl, h.cons h2 h3 h4⟩
theorem FDs.equal (h : FDs w0 w l) (hp : l[i]? = some p) (hq : l[j]? = some q) : Calls Try.prog 32 #[.pointer (some ⟨p.1, 0, none⟩), .pointer (some ⟨q.1, 0, none⟩)] w fun e w' => e = .returned (.bool (eqD p.2 q.2)) ∧ FDs w0 w' l := by
  obtain ⟨S, h1, _⟩ := h.at_ hp
  obtain ⟨T, h2, _⟩ := h.at_ hq
  exact (equal_any h1 h2).mono fun e w' hh => ⟨hh.1, h.grow hh.2⟩
theorem FDs.start (h : FDs w0 w l) (hp : l[i]? = some p) (ho : p.2.Ok) {A : Option Addr} {n c : Nat} {ch : List UInt8} (hx : BytesW w0 A n c ch) : Calls Try.prog 26 #[.pointer (some ⟨p.1, 0, none⟩), .slice A n c] w fun e w' => e = .returned (.tuple #[]) ∧ FDs w0 w' (l.set i (p.1, startD p.2 ch)) := by
  obtain ⟨S, h1, h2, h3⟩ := h.set hp
  refine (start_any h1 ho (hx.1.grow h.below) hx.2.1 hx.2.2.1 (fun ad e hs => ?_)).mono fun e w' hh => ⟨hh.1, h3 _ _ hh.2⟩
  have h4 := h2 _ hs
  have h5 := hx.2.2.2 ad e
  omega
theorem FDs.crash (h : FDs w0 w l) (hp : l[i]? = some p) : Calls Try.prog 25 #[.pointer (some ⟨p.1, 0, none⟩)] w fun e w' => e = .returned (.tuple #[]) ∧ FDs w0 w' (l.set i (p.1, { p.2 with down := true })) := h.runV hp fun S hS => crash_any hS
theorem FDs.down (h : FDs w0 w l) (hp : l[i]? = some p) : Calls Try.prog 28 #[.pointer (some ⟨p.1, 0, none⟩)] w fun e w' => e = .returned (.bool p.2.down) ∧ w' = w := by
  obtain ⟨S, h1, _⟩ := h.at_ hp
  exact down_any h1
end
end Go.Proofs.Ytphjgembpcikdaa
