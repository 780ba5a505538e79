/- Plain facts: the next channel of a list with one nil more; the least channel. -/
import Derived.Test.YtjldpodehffbnaaChan6
namespace Go.Proofs.Ytjldpodehffbnaa
set_option linter.unusedVariables false
set_option linter.unnecessarySimpa false
set_option linter.unusedSimpArgs false
open Go.RowKit

def shI (at_ : Nat) (p : Nat × Ch) : Nat × Ch := (if p.1 < at_ then p.1 else p.1 + 1, p.2)
theorem bestO_succ (l : List CP) (k : Nat) : bestO l (k + 1) = match l[k]? with | some x => stepB k (bestO l k) x | none => bestO l k := rfl
theorem stepB_sh (at_ m : Nat) (o : Option (Nat × Ch)) (x : CP) : stepB (at_ + 1 + m) (o.map (shI at_)) x = (stepB (at_ + m) o x).map (shI at_) := by
  rcases x with _ | ⟨b, r, c⟩
  · rfl
  · have hb : better c (o.map (shI at_)) = better c o := by
      rcases o with _ | ⟨j, bc⟩
      · rfl
      · rfl
    simp only [stepB, hb]
    split
    · simp only [Option.map_some, shI, Option.some.injEq, Prod.mk.injEq, and_true]
      rw [if_neg (by omega)]
      omega
    · rfl
theorem bestO_ins1 (a b : List CP) : ∀ k, k ≤ a.length → bestO (a ++ none :: b) k = (bestO (a ++ b) k).map (shI a.length)
  | 0, _ => rfl
  | k + 1, h => by
    have e1 : (a ++ none :: b)[k]? = a[k]? := List.getElem?_append_left (by omega)
    have e2 : (a ++ b)[k]? = a[k]? := List.getElem?_append_left (by omega)
    rw [bestO_succ, bestO_succ, e1, e2, bestO_ins1 a b k (by omega)]
    rcases hx : a[k]? with _ | x
    · rfl
    · dsimp only
      rcases x with _ | ⟨bb, r, c⟩
      · rfl
      · have hb : better c ((bestO (a ++ b) k).map (shI a.length)) = better c (bestO (a ++ b) k) := by
          rcases bestO (a ++ b) k with _ | ⟨j, bc⟩
          · rfl
          · rfl
        simp only [stepB, hb]
        split
        · simp only [Option.map_some, shI, Option.some.injEq, Prod.mk.injEq, and_true]
          rw [if_pos (by omega)]
        · rfl
theorem bestO_ins2 (a b : List CP) : ∀ m, bestO (a ++ none :: b) (a.length + 1 + m) = (bestO (a ++ b) (a.length + m)).map (shI a.length)
  | 0 => by
    show bestO (a ++ none :: b) (a.length + 1) = _
    rw [bestO_succ, List.getElem?_append_right (Nat.le_refl _), Nat.sub_self]
    exact bestO_ins1 a b a.length (Nat.le_refl _)
  | m + 1 => by
    have e1 : (a ++ none :: b)[a.length + 1 + m]? = b[m]? := by
      rw [List.getElem?_append_right (by omega), show a.length + 1 + m - a.length = m + 1 by omega]
      rfl
    have e2 : (a ++ b)[a.length + m]? = b[m]? := by rw [List.getElem?_append_right (by omega), Nat.add_sub_cancel_left]
    show bestO (a ++ none :: b) (a.length + 1 + m + 1) = (bestO (a ++ b) (a.length + m + 1)).map _
    rw [bestO_succ, bestO_succ, e1, e2, bestO_ins2 a b m]
    rcases hx : b[m]? with _ | x
    · rfl
    · exact stepB_sh _ _ _ _
theorem nextC_ins (a b : List CP) {k : Int} {r : Bool} (h : nextC (a ++ b) = (k, r)) : nextC (a ++ none :: b) = (if r = true ∧ (a.length : Int) ≤ k then k + 1 else k, r) := by
  unfold nextC at h ⊢
  have hl : (a ++ none :: b).length = a.length + 1 + b.length := by simp; omega
  rw [hl, bestO_ins2, ← List.length_append]
  have hany : ∀ e p, (a ++ none :: b).any (lessO e p) = (a ++ b).any (lessO e p) := fun e p => by simp [lessO]
  rcases hb : bestO (a ++ b) (a ++ b).length with _ | ⟨j, c⟩
  · rw [hb] at h
    cases h
    simp
  · rw [hb] at h
    simp only [Option.map_some, shI]
    dsimp only at h
    rw [hany]
    split at h
    · rename_i han
      cases h
      rw [if_pos han]
      simp
    · rename_i han
      cases h
      rw [if_neg han]
      by_cases hj : j < a.length
      · rw [if_pos hj, if_neg (by omega)]
      · rw [if_neg hj, if_pos ⟨rfl, by omega⟩]
        rfl
def cmp3 (x y : Nat × Nat × Ch) : Int := cmpS (leE x.2.2) (leP x.2.2) (leE y.2.2) (leP y.2.2)
theorem cmp3_ge {x y z : Nat × Nat × Ch} (h1 : 0 ≤ cmp3 x y) (h2 : 0 ≤ cmp3 y z) : 0 ≤ cmp3 x z := by
  have := (cmpS_tri (leE x.2.2) (leE y.2.2) (leE z.2.2) (leP x.2.2) (leP y.2.2) (leP z.2.2)).2 h1 h2
  unfold cmp3 at *
  omega
theorem cmp3_self (x : Nat × Nat × Ch) : 0 ≤ cmp3 x x := by unfold cmp3; rw [cmpS_zero.2 ⟨rfl, rfl⟩]; exact Int.le_refl _
theorem minL_le : ∀ (l : List CP) (m : Nat × Nat × Ch), 0 ≤ cmp3 m (minL m l) ∧ ∀ y, some y ∈ l → 0 ≤ cmp3 y (minL m l)
  | [], m => ⟨cmp3_self m, fun y h => (List.not_mem_nil h).elim⟩
  | x :: l, m => by
    show 0 ≤ cmp3 m (minL (minStep m x) l) ∧ ∀ y, some y ∈ x :: l → 0 ≤ cmp3 y (minL (minStep m x) l)
    obtain ⟨h1, h2⟩ := minL_le l (minStep m x)
    have hm : 0 ≤ cmp3 m (minStep m x) ∧ ∀ y, some y = x → 0 ≤ cmp3 y (minStep m x) := by
      rcases x with _ | y
      · exact ⟨cmp3_self m, fun y h => by cases h⟩
      · simp only [minStep]
        split
        · rename_i hlt
          refine ⟨?_, fun z hz => by cases hz; exact cmp3_self _⟩
          have := cmpS_neg (leE y.2.2) (leE m.2.2) (leP y.2.2) (leP m.2.2)
          unfold cmp3
          omega
        · rename_i hlt
          exact ⟨cmp3_self m, fun z hz => by cases hz; exact Int.not_lt.1 hlt⟩
    refine ⟨cmp3_ge hm.1 h1, fun y hy => ?_⟩
    rcases List.mem_cons.1 hy with h | h
    · exact cmp3_ge (hm.2 y h) h1
    · exact h2 y h
end Go.Proofs.Ytjldpodehffbnaa
