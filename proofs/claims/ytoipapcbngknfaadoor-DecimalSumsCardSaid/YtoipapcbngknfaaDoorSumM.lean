/- Plain facts on lists of numbers: what Sum gives does not ask for the order. Nothing here walks a program. -/
import Derived.Test.YtoipapcbngknfaaDoorDec4
namespace Go.Proofs.YtoipapcbngknfaaDoor
set_option linter.unusedVariables false
set_option linter.unnecessarySimpa false
set_option linter.unusedSimpArgs false

theorem sumI_perm {xs ys : List Int} (h : xs.Perm ys) : sumI xs = sumI ys := by
  induction h with
  | nil => rfl
  | cons x _ ih => simp only [sumI, ih]
  | swap x y l => simp only [sumI]; omega
  | trans _ _ h1 h2 => exact h1.trans h2
theorem sumAt_perm {L M : List (Int × Int)} (h : L.Perm M) (sc : Nat) : sumAt L sc = sumAt M sc := sumI_perm (h.map _)
/-- The greatest scale. -/
def maxS : List (Int × Int) → Int
  | [] => 0
  | p :: L => max p.2 (maxS L)
theorem maxS_nonneg (L : List (Int × Int)) : 0 ≤ maxS L := by
  induction L with
  | nil => exact Int.le_refl _
  | cons p L ih => simp only [maxS]; omega
theorem maxS_snoc (L : List (Int × Int)) (p : Int × Int) : maxS (L ++ [p]) = max (maxS L) p.2 := by
  induction L with
  | nil => simp only [List.nil_append, maxS]; omega
  | cons q L ih => simp only [List.cons_append, maxS, ih]; omega
theorem maxS_step {L : List (Int × Int)} {k : Nat} {p : Int × Int} (h : L[k]? = some p) : maxS (L.take (k + 1)) = max (maxS (L.take k)) p.2 := by
  rw [List.take_add_one, h]
  exact maxS_snoc _ _
theorem maxS_perm {L M : List (Int × Int)} (h : L.Perm M) : maxS L = maxS M := by
  induction h with
  | nil => rfl
  | cons x _ ih => simp only [maxS, ih]
  | swap x y l => simp only [maxS]; omega
  | trans _ _ h1 h2 => exact h1.trans h2
theorem maxS_le {L : List (Int × Int)} {p : Int × Int} (h : p ∈ L) : p.2 ≤ maxS L := by
  induction L with
  | nil => cases h
  | cons q L ih =>
    simp only [maxS]
    rcases List.mem_cons.1 h with rfl | h
    · omega
    · have := ih h; omega
theorem maxS_bd {L : List (Int × Int)} (h : ∀ p ∈ L, okN p.1 p.2 = true) : maxS L ≤ 12 := by
  induction L with
  | nil => decide
  | cons q L ih =>
    have h1 := okN_iff.1 (h q (by simp))
    have h2 := ih fun p hp => h p (by simp [hp])
    simp only [maxS]
    omega
theorem errL_perm {L M : List (Int × Int)} (h : L.Perm M) : errL L = errL M := by unfold errL; rw [h.all_eq]
/-- What Sum gives. -/
def sumN (L : List (Int × Int)) : Int × Int × Int :=
  if 256 < L.length then (0, 0, 9) else if errL L = 0 then fitN (sumAt L (maxS L).toNat) (maxS L) else (0, 0, 2)
theorem sumN_perm {L M : List (Int × Int)} (h : L.Perm M) : sumN L = sumN M := by unfold sumN; rw [h.length_eq, errL_perm h, maxS_perm h, sumAt_perm h]
theorem errL_zero {L : List (Int × Int)} (h : errL L = 0) : ∀ p ∈ L, okN p.1 p.2 = true := by
  unfold errL at h
  split at h
  · rename_i h'
    exact List.all_eq_true.1 h'
  · cases h
/-- Two numbers change places. -/
theorem swap_perm {α : Type} {L : List α} {i k : Nat} {x y : α} (hi : L[i]? = some x) (hk : L[k]? = some y) : ((L.set i y).set k x).Perm L := by
  obtain ⟨hi', rfl⟩ := List.getElem?_eq_some_iff.1 hi
  obtain ⟨hk', rfl⟩ := List.getElem?_eq_some_iff.1 hk
  exact List.set_set_perm hi' hk'
/-- The sum of the first k numbers is not great. -/
theorem sumAt_bd {L : List (Int × Int)} (h : ∀ p ∈ L, okN p.1 p.2 = true) {sc : Nat} (hsc : sc ≤ 12) (k : Nat) (hk : k ≤ 1000) : (digs (sumAt (L.take k) sc).natAbs).length ≤ 1000 := by
  refine Nat.le_trans (len_digs_le (k := 31) ?_) (by omega)
  have h1 := sum_bd (L := L) (f := fun p => p.1 * p10 (sc - p.2.toNat)) (M := 999999999999999 * 1000000000000) (by decide) (fun p hp => ?_) k
  · unfold sumAt
    have h2 : (999999999999999 * 1000000000000 : Int) * (k : Int) ≤ 999999999999999 * 1000000000000 * 1000 := Int.mul_le_mul_of_nonneg_left (by omega) (by decide)
    generalize sumI ((L.take k).map fun p => p.1 * p10 (sc - p.2.toNat)) = S at *
    omega
  · have h3 := okN_iff.1 (h p hp)
    have h4 : p10 (sc - p.2.toNat) ≤ 1000000000000 := by have := p10_mono (show sc - p.2.toNat ≤ 12 by omega); rwa [show p10 12 = 1000000000000 by decide] at this
    have h5 := p10_pos (sc - p.2.toNat)
    generalize p10 (sc - p.2.toNat) = P at *
    generalize p.1 = n at *
    have h6 : n * P ≤ 999999999999999 * P := Int.mul_le_mul_of_nonneg_right (by omega) (by omega)
    have h7 : -n * P ≤ 999999999999999 * P := Int.mul_le_mul_of_nonneg_right (by omega) (by omega)
    rw [Int.neg_mul] at h7
    constructor <;> omega
theorem sumAt_step {L : List (Int × Int)} {k : Nat} {p : Int × Int} (sc : Nat) (h : L[k]? = some p) : sumAt (L.take (k + 1)) sc = sumAt (L.take k) sc + p.1 * p10 (sc - p.2.toNat) := sum_snoc _ h
end Go.Proofs.YtoipapcbngknfaaDoor
