/- device laws: several devices that were made since. -/
import Derived.Test.YtphjgembpcikdaaVRun
namespace Go.Proofs.Ytphjgembpcikdaa
set_option linter.unusedVariables false
set_option linter.unnecessarySimpa false
set_option linter.unusedSimpArgs false
open Go.RowKit

/-- Devices that were made since w0, none of which touches another. -/
structure FDs (w0 w : World) (l : List (Nat × Ds)) : Prop where
  dev : ∃ Ss : List (Nat → Prop), Ss.length = l.length ∧ (∀ (i : Nat) p S, l[i]? = some p → Ss[i]? = some S → DevW w p.1 S p.2 ∧ ∀ x, S x → w0.heap.size ≤ x) ∧ Ss.Pairwise fun S T => ∀ x, S x → ¬ T x
  below : Below w0.heap.size w0 w
section
variable {w0 w w' : World} {l : List (Nat × Ds)} {p : Nat × Ds} {i : Nat} {s' : Ds}
theorem FDs.nil (h : Below w0.heap.size w0 w) : FDs w0 w [] := ⟨⟨[], rfl, fun i p S h => by simp at h, List.Pairwise.nil⟩, h⟩
theorem FDs.grow (h : FDs w0 w l) (hb : Below w.heap.size w w') : FDs w0 w' l := by
  obtain ⟨Ss, h1, h2, h3⟩ := h.dev
  exact ⟨⟨Ss, h1, fun i p S hp hS => ⟨(h2 i p S hp hS).1.grow hb, (h2 i p S hp hS).2⟩, h3⟩, G.trans h.below hb⟩
/-- One of them. -/
theorem FDs.at_ (h : FDs w0 w l) (hp : l[i]? = some p) : ∃ S, DevW w p.1 S p.2 ∧ ∀ x, S x → w0.heap.size ≤ x := by
  obtain ⟨Ss, h1, h2, h3⟩ := h.dev
  have hl : i < Ss.length := by rw [h1]; exact (List.getElem?_eq_some_iff.1 hp).1
  exact ⟨Ss[i], h2 i p _ hp (List.getElem?_eq_getElem hl)⟩
theorem FDs.fd (h : FDs w0 w l) (hp : l[i]? = some p) : FD w0 w p.1 p.2 := ⟨h.at_ hp, h.below⟩
/-- One more device, of new blocks. -/
theorem FDs.cons {d : Nat} {S : Nat → Prop} (h : FDs w0 w l) (hd : DevW w' d S s') (hS : ∀ x, S x → w.heap.size ≤ x) (hb : Below w.heap.size w w') : FDs w0 w' ((d, s') :: l) := by
  have hsz := h.below.size
  obtain ⟨Ss, h1, h2, h3⟩ := h.dev
  have hlt : ∀ T ∈ Ss, ∀ x, T x → x < w.heap.size := fun T hT x hx => by
    obtain ⟨j, hj, rfl⟩ := List.getElem_of_mem hT
    exact (h2 j _ _ (List.getElem?_eq_getElem (by omega)) (List.getElem?_eq_getElem hj)).1.lt hx
  refine ⟨⟨S :: Ss, by simp [h1], fun i p T hp hT => ?_, List.pairwise_cons.2 ⟨fun T hT x hx hxT => ?_, h3⟩⟩, (h.grow hb).below⟩
  · rcases i with _ | i
    · simp at hp hT
      subst hp hT
      exact ⟨hd, fun x hx => Nat.le_trans hsz (hS x hx)⟩
    · have := h2 i p T (by simpa using hp) (by simpa using hT)
      exact ⟨this.1.grow hb, this.2⟩
  · have := hlt T hT x hxT
    have := hS x hx
    omega
/-- One device changes. -/
theorem FDs.set (h : FDs w0 w l) (hp : l[i]? = some p) : ∃ S, DevW w p.1 S p.2 ∧ (∀ x, S x → w0.heap.size ≤ x) ∧ ∀ w' s', RetD p.1 S s' w w' → FDs w0 w' (l.set i (p.1, s')) := by
  have hsz := h.below.size
  obtain ⟨Ss, h1, h2, h3⟩ := h.dev
  have hl : i < l.length := (List.getElem?_eq_some_iff.1 hp).1
  have hi := h2 i p _ hp (List.getElem?_eq_getElem (by omega))
  refine ⟨Ss[i], hi.1, hi.2, fun w' s' hr => ?_⟩
  obtain ⟨S', g1, g2, g3⟩ := hr
  have dis : ∀ j (hj : j < Ss.length), j ≠ i → ∀ x, S' x → ¬ Ss[j] x := fun j hj hne x hx hxj => by
    rcases g2 x hx with h4 | h4
    · rcases Nat.lt_or_ge j i with hji | hji
      · exact List.pairwise_iff_getElem.1 h3 j i hj (by omega) hji x hxj h4
      · exact List.pairwise_iff_getElem.1 h3 i j (by omega) hj (by omega) x h4 hxj
    · have := (h2 j _ _ (List.getElem?_eq_getElem (by omega)) (List.getElem?_eq_getElem hj)).1.lt hxj
      omega
  refine ⟨⟨Ss.set i S', by simp [h1], fun j q T hq hT => ?_, ?_⟩, below_chg h.below hi.2 g3⟩
  · rw [List.getElem?_set] at hq hT
    by_cases hij : i = j
    · subst hij
      rw [if_pos rfl] at hq hT
      rw [if_pos hl] at hq
      rw [if_pos (by omega)] at hT
      cases hq
      cases hT
      exact ⟨g1, fun x hx => by rcases g2 x hx with h4 | h4; exact hi.2 x h4; omega⟩
    · rw [if_neg hij] at hq hT
      have hjl := (List.getElem?_eq_some_iff.1 hT).1
      have := h2 j q T hq hT
      refine ⟨this.1.other g3 fun x hx hxi => ?_, this.2⟩
      obtain ⟨_, rfl⟩ := List.getElem?_eq_some_iff.1 hT
      rcases Nat.lt_or_ge j i with hji | hji
      · exact List.pairwise_iff_getElem.1 h3 j i hjl (by omega) hji x hx hxi
      · exact List.pairwise_iff_getElem.1 h3 i j (by omega) hjl (by omega) x hxi hx
  · refine List.pairwise_iff_getElem.2 fun a b ha hb hab x hxa hxb => ?_
    rw [List.length_set] at ha hb
    rw [List.getElem_set] at hxa hxb
    by_cases hia : i = a
    · subst hia
      rw [if_pos rfl] at hxa
      rw [if_neg (by omega)] at hxb
      exact dis b hb (by omega) x hxa hxb
    · rw [if_neg hia] at hxa
      by_cases hib : i = b
      · subst hib
        rw [if_pos rfl] at hxb
        exact dis a ha (by omega) x hxb hxa
      · rw [if_neg hib] at hxb
        exact List.pairwise_iff_getElem.1 h3 a b ha hb hab x hxa hxb
theorem FDs.runE {n : Nat} {a : Array Value} {r : Int × Ds} (h : FDs w0 w l) (hp : l[i]? = some p) (hc : ∀ S, DevW w p.1 S p.2 → Calls Try.prog n a w (RetE p.1 S r w)) : Calls Try.prog n a w fun e w' => e = .returned (.int .i64 r.1) ∧ FDs w0 w' (l.set i (p.1, r.2)) := by
  obtain ⟨S, h1, h2, h3⟩ := h.set hp
  exact (hc S h1).mono fun e w' hh => ⟨hh.1, h3 _ _ hh.2⟩
theorem FDs.runV {n : Nat} {a : Array Value} (h : FDs w0 w l) (hp : l[i]? = some p) (hc : ∀ S, DevW w p.1 S p.2 → Calls Try.prog n a w fun e w' => e = .returned (.tuple #[]) ∧ RetD p.1 S s' w w') : Calls Try.prog n a w fun e w' => e = .returned (.tuple #[]) ∧ FDs w0 w' (l.set i (p.1, s')) := by
  obtain ⟨S, h1, h2, h3⟩ := h.set hp
  exact (hc S h1).mono fun e w' hh => ⟨hh.1, h3 _ _ hh.2⟩
theorem FDs.new {w1 : World} {n : Int} {e : Ending} (h : FDs w0 w l) (hr : RetNew n w e w1) : ∃ d, e = .returned (.tuple #[.pointer (some ⟨d, 0, none⟩), .int .i64 0]) ∧ FDs w0 w1 ((d, newD n) :: l) := by
  obtain ⟨d, S, h1, h2, h3, h4⟩ := hr
  exact ⟨d, h1, h.cons h2 h3 h4⟩
theorem FDs.oper (h : FDs w0 w l) (hp : l[i]? = some p) (hg : p.2.Good) (o : LOp) (ho : o.Fit) (k : Nat) (hk : k ≤ 1000) : Calls Try.prog 24 #[.pointer (some ⟨p.1, 0, none⟩), o.val, .int .i64 k] w fun e w' => e = .returned (.int .i64 (operD p.2 o k).1) ∧ FDs w0 w' (l.set i (p.1, (operD p.2 o k).2)) :=
  h.runE hp fun S hS => operate_any hS hg o ho k hk
end
end Go.Proofs.Ytphjgembpcikdaa
