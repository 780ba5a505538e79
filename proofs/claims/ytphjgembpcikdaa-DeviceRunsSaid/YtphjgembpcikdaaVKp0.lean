/- device laws: what Start leaves (plain). -/
import Derived.Test.YtphjgembpcikdaaVEq
import Derived.Test.YtphjgembpcikdaaVRoom
import Derived.Test.YtphjgembpcikdaaVSync
namespace Go.Proofs.Ytphjgembpcikdaa
set_option linter.unusedVariables false
set_option linter.unnecessarySimpa false
set_option linter.unusedSimpArgs false
open Go.RowKit

/-- What a failure leaves of a file. -/
structure Left (f g : Fl) (z : Nat) : Prop where
  name : g.name = f.name
  dur : g.dur = g.data.length
  lo : f.dur ≤ g.data.length
  hi : g.data.length ≤ f.data.length
  sure : (z : Int) = max (f.dur : Int) ((g.data.length : Int) - 1)
  same : g.data.take z = f.data.take z
  le : z ≤ g.data.length
theorem chop_take {f : Fl} {c : Nat} (hc : c ≤ 255) (hd : f.dur ≤ f.data.length) : f.dur ≤ (chopB f c).length ∧ (chopB f c).length ≤ f.data.length ∧ ∃ z : Nat, (z : Int) = max (f.dur : Int) (((chopB f c).length : Int) - 1) ∧ (chopB f c).take z = f.data.take z ∧ z ≤ (chopB f c).length := by
  have h1 := kept_le (c := c) hc hd
  have hl : (chopB f c).length = f.dur + keptB f c := by
    unfold chopB
    split
    · rw [len_flip, List.length_take]; omega
    · rw [List.length_take]; omega
  refine ⟨by omega, by omega, max f.dur (f.dur + keptB f c - 1), by rw [hl]; omega, ?_, by rw [hl]; omega⟩
  unfold chopB
  split
  · next h =>
    unfold flipB
    have e : max f.dur (f.dur + keptB f c - 1) = f.dur + keptB f c - 1 := by omega
    rw [e, List.length_take, List.take_set, List.take_take]
    rw [List.set_eq_of_length_le (by rw [List.length_take]; omega)]
    congr 1
    omega
  · rw [List.take_take]
    congr 1
    omega
theorem start_left : ∀ (l : List Fl) (ch : List UInt8), (∀ f ∈ l, f.dur ≤ f.data.length) → ∀ (i : Nat) (f : Fl), l[i]? = some f → ∃ g z, (startL l ch)[i]? = some g ∧ Left f g z
  | [], _, _ => fun i f h => by simp at h
  | a :: l, ch, hd => fun i f h => by
    have ha := hd a (List.mem_cons_self ..)
    have hl : ∀ f ∈ l, f.dur ≤ f.data.length := fun f hf => hd f (List.mem_cons_of_mem _ hf)
    have hb : (ch.headD 0).toNat ≤ 255 := by have := (ch.headD 0).toNat_lt; omega
    unfold startL
    rcases i with _ | i
    · obtain rfl : a = f := by simpa using h
      split
      · next hle =>
        refine ⟨_, a.dur, rfl, ⟨rfl, rfl, by show a.dur ≤ a.data.length; omega, Nat.le_refl _, by show (a.dur : Int) = max (a.dur : Int) ((a.data.length : Int) - 1); omega, rfl, by show a.dur ≤ a.data.length; omega⟩⟩
      · obtain ⟨h1, h2, z, h3, h4, h5⟩ := chop_take hb ha
        exact ⟨_, z, rfl, ⟨rfl, rfl, h1, h2, h3, h4, h5⟩⟩
    · have h' : l[i]? = some f := by simpa using h
      split
      · exact start_left l ch hl i f h'
      · exact start_left l ch.tail hl i f h'
theorem dur_at {s : Ds} (hu : Uq s.fs) (hd : s.down = false) {i : Nat} {f : Fl} (h : s.fs[i]? = some f) : durD s f.name = ((f.dur : Int), 0) := by
  unfold durD
  rw [hd, if_neg (by simp), lk_at hu h]
theorem read_at {s : Ds} (hu : Uq s.fs) (hd : s.down = false) {i : Nat} {f : Fl} (h : s.fs[i]? = some f) {z : Nat} (hz : z ≤ f.data.length) : readD s f.name 0 z = (f.data.take z, 0) := by
  unfold readD
  rw [hd, if_neg (by simp), lk_at hu h]
  dsimp only
  rw [if_neg (by omega)]
  simp
end Go.Proofs.Ytphjgembpcikdaa
