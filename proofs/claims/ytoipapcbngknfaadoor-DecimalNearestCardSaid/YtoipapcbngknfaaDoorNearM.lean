/- Plain facts for DecimalNearest: how far a rounded number lies away. Nothing here walks a program. -/
import Derived.Test.YtoipapcbngknfaaDoorDiv2
import Derived.Test.YtoipapcbngknfaaDoorRef7
namespace Go.Proofs.YtoipapcbngknfaaDoor
set_option linter.unusedVariables false
set_option linter.unnecessarySimpa false
set_option linter.unusedSimpArgs false
open Go.RowKit

theorem quo_one (n : Int) (j q : Nat) : quoV n j 1 0 q = if n < 0 then -rnd (max n (-n) * p10 q) (p10 j) else rnd (max n (-n) * p10 q) (p10 j) := by
  unfold quoV
  rw [Nat.zero_add, show max (1 : Int) (-1) = 1 by decide, Int.one_mul]
  by_cases h : n < 0
  · rw [if_pos h, if_neg (by omega)]; omega
  · rw [if_neg h, if_pos (by omega)]; omega
theorem quo_again (V : Int) (q : Nat) : quoV V q 1 0 q = V := by
  rw [quo_one, rnd_exact (p10_pos q)]
  split <;> omega
theorem near_law {n : Int} {j q s : Nat} (hs : (j ≤ q ∧ s = q) ∨ (q < j ∧ s = j)) :
    ∀ V D E : Int, V = quoV n j 1 0 q → D = n * p10 (s - j) + -(V * p10 (s - q)) → ((D + D < 0 → E = -(D + D)) ∧ (¬ D + D < 0 → E = D + D)) → cmpI E (1 * p10 (s - q)) < 0 ∨ (cmpI E (1 * p10 (s - q)) = 0 ∧ V.tmod 2 = 0) := by
  intro V D E hV hD hE
  rw [quo_one] at hV
  have hev : V % 2 = 0 → V.tmod 2 = 0 := fun h => by
    rcases Int.le_total 0 V with h' | h'
    · rw [Int.tmod_eq_emod_of_nonneg h']; exact h
    · have e : V.tmod 2 = -((-V) % 2) := by rw [← Int.tmod_eq_emod_of_nonneg (by omega), Int.neg_tmod, Int.neg_neg]
      rw [e]; omega
  have hA : 0 ≤ max n (-n) := by omega
  rw [Int.one_mul]
  rcases hs with ⟨hjq, rfl⟩ | ⟨hqj, rfl⟩
  · rw [Nat.sub_self, p10_zero] at hD ⊢
    have e1 : rnd (max n (-n) * p10 s) (p10 j) = max n (-n) * p10 (s - j) := by
      have h1 : max n (-n) * p10 s = max n (-n) * p10 (s - j) * p10 j := by rw [Int.mul_assoc, ← p10_add, show s - j + j = s by omega]
      rw [h1]
      exact rnd_exact (p10_pos j)
    rw [e1] at hV
    have hD0 : D = 0 := by
      rw [hD, hV]
      split
      · rw [show max n (-n) = -n by omega]; simp only [Int.neg_mul, Int.neg_neg, Int.mul_one]; omega
      · rw [show max n (-n) = n by omega]; omega
    left
    rw [hE.2 (by omega), hD0]
    decide
  · rw [Nat.sub_self, p10_zero] at hD
    have e1 : rnd (max n (-n) * p10 q) (p10 s) = rnd (max n (-n)) (p10 (s - q)) := by
      have h1 := rnd_scale (X := max n (-n)) (Y := p10 (s - q)) (p10_pos q)
      rw [← p10_add, show s - q + q = s by omega] at h1
      exact h1
    rw [e1] at hV
    obtain ⟨h1, h2, h3⟩ := rnd_near hA (p10_pos (s - q))
    generalize rnd (max n (-n)) (p10 (s - q)) = R at *
    generalize p10 (s - q) = P at *
    have hD2 : D = max n (-n) - R * P ∨ D = -(max n (-n) - R * P) := by
      rw [hD, hV]
      split
      · right; simp only [Int.neg_mul]; omega
      · left; rw [show max n (-n) = n by omega]; omega
    have hVR : V % 2 = 0 ↔ R % 2 = 0 := by rw [hV]; split <;> omega
    have hEP : E ≤ P := by
      by_cases h : D + D < 0
      · rw [hE.1 h]; omega
      · rw [hE.2 h]; omega
    rcases Int.lt_or_le E P with h | h
    · left; rw [cmpI_lt h]; decide
    · right
      refine ⟨cmpI_zero.2 (by omega), hev (hVR.2 (h3 ?_))⟩
      by_cases h' : D + D < 0
      · have := hE.1 h'; omega
      · have := hE.2 h'; omega
theorem divN_ok {n s sc : Int} (h : (divN n s 1 0 sc).2.2 = 0) :
    ∃ (j q : Nat), s = j ∧ sc = q ∧ j ≤ 12 ∧ q ≤ 12 ∧ okN n j = true ∧ okN (quoV n j 1 0 q) q = true ∧ divN n s 1 0 sc = (quoV n j 1 0 q, (q : Int), 0) ∧ divN (quoV n j 1 0 q) q 1 0 q = (quoV n j 1 0 q, (q : Int), 0) := by
  unfold divN at h
  split at h
  · rename_i hc
    obtain ⟨h1, h2, h3, h4⟩ := hc
    rw [if_neg (by decide)] at h
    obtain ⟨j, rfl, hj, _, _⟩ := okN_nat h1
    obtain ⟨q, rfl⟩ : ∃ q : Nat, sc = q := ⟨sc.toNat, by omega⟩
    simp only [Int.toNat_natCast] at h
    rw [show (0 : Int).toNat = 0 from rfl] at h
    unfold fitN at h
    split at h
    · rename_i hV
      have ho : okN (quoV n j 1 0 q) q = true := okN_iff.2 ⟨hV.1, hV.2, h3, h4⟩
      refine ⟨j, q, rfl, rfl, hj, by omega, h1, ho, ?_, ?_⟩
      · unfold divN
        rw [if_pos ⟨h1, h2, h3, h4⟩, if_neg (by decide)]
        simp only [Int.toNat_natCast]
        rw [show (0 : Int).toNat = 0 from rfl]
        unfold fitN
        rw [if_pos hV]
      · unfold divN
        rw [if_pos ⟨ho, h2, h3, h4⟩, if_neg (by decide)]
        simp only [Int.toNat_natCast]
        rw [show (0 : Int).toNat = 0 from rfl, quo_again]
        unfold fitN
        rw [if_pos hV]
    · cases h
  · cases h
/-- Plus gives one of its arguments' slices, or one of its own. -/
theorem plus_from (y z : Int) (A B : Option Addr) (n m c d : Nat) (w : World) (ha : Wd w A n c y) (hb : Wd w B m d z) (hn : n ≤ 1000) (hm : m ≤ 1000) :
    Calls Tryd.prog 19 #[.agg #[.int .i64 (sgn y), .slice A n c], .agg #[.int .i64 (sgn z), .slice B m d]] w fun e w' => ∃ A9 n9 c9, e = .returned (.agg #[.int .i64 (sgn (y + z)), .slice A9 n9 c9]) ∧ Wd w' A9 n9 c9 (y + z) ∧ ((A9 = A ∧ n9 = n) ∨ (A9 = B ∧ n9 = m) ∨ Abv w.heap.size A9) ∧ Below w.heap.size w w' := by
  have hdy := dig_digs y.natAbs
  have hdz := dig_digs z.natAbs
  have vy := valD_digs y.natAbs
  have vz := valD_digs z.natAbs
  have own : ∀ {v : Int} {e : Ending} {w' : World}, RetW v w e w' → v = y + z → ∃ A9 n9 c9, e = .returned (.agg #[.int .i64 (sgn (y + z)), .slice A9 n9 c9]) ∧ Wd w' A9 n9 c9 (y + z) ∧ ((A9 = A ∧ n9 = n) ∨ (A9 = B ∧ n9 = m) ∨ Abv w.heap.size A9) ∧ Below w.heap.size w w' := by
    rintro v e w' ⟨A9, n9, c9, h1, h2, h3, h4⟩ rfl
    exact ⟨A9, n9, c9, h1, h2, .inr (.inr h3), h4⟩
  rcases sgn_cases y with ⟨e1, hy⟩ | ⟨e1, hy⟩ | ⟨e1, rfl⟩
  · rcases sgn_cases z with ⟨e2, hz⟩ | ⟨e2, hz⟩ | ⟨e2, rfl⟩
    · rw [e1, e2]
      exact (plus_pp A B n m c d _ _ w ha.1 hb.1 hdy hdz hn hm).mono fun e w' h => own h (by rw [vy, vz]; omega)
    · rw [e1, e2]
      by_cases h : valD (digs z.natAbs) ≤ valD (digs y.natAbs)
      · exact (plus_pm A B n m c d _ _ w ha.1 hb.1 hdy hdz hn hm h).mono fun e w' h => own h (by rw [vy, vz]; omega)
      · exact (plus_swap 1 (-1) _ A B n m c d _ _ w ha.1 hb.1 hdy hdz hn hm (by omega) (by omega) (by omega) (by omega) fun w h1 h2 => plus_mp B A m n d c _ _ w h2 h1 hdz hdy hm hn (by omega)).mono fun e w' h => own h (by rw [vy, vz]; omega)
    · rw [e1, e2, Int.add_zero]
      exact (plus_r0 1 A B n m c d w (by omega)).mono fun e w' h => ⟨A, n, c, by rw [e1]; exact h.1, ha.grow h.2, .inl ⟨rfl, rfl⟩, h.2⟩
  · rcases sgn_cases z with ⟨e2, hz⟩ | ⟨e2, hz⟩ | ⟨e2, rfl⟩
    · rw [e1, e2]
      by_cases h : valD (digs z.natAbs) ≤ valD (digs y.natAbs)
      · exact (plus_mp A B n m c d _ _ w ha.1 hb.1 hdy hdz hn hm h).mono fun e w' h => own h (by rw [vy, vz]; omega)
      · exact (plus_swap (-1) 1 _ A B n m c d _ _ w ha.1 hb.1 hdy hdz hn hm (by omega) (by omega) (by omega) (by omega) fun w h1 h2 => plus_pm B A m n d c _ _ w h2 h1 hdz hdy hm hn (by omega)).mono fun e w' h => own h (by rw [vy, vz]; omega)
    · rw [e1, e2]
      exact (plus_mm A B n m c d _ _ w ha.1 hb.1 hdy hdz hn hm).mono fun e w' h => own h (by rw [vy, vz]; omega)
    · rw [e1, e2, Int.add_zero]
      exact (plus_r0 (-1) A B n m c d w (by omega)).mono fun e w' h => ⟨A, n, c, by rw [e1]; exact h.1, ha.grow h.2, .inl ⟨rfl, rfl⟩, h.2⟩
  · rw [e1, Int.zero_add]
    exact (plus_l0 (sgn z) A B n m c d w).mono fun e w' h => ⟨B, m, d, h.1, hb.grow h.2, .inr (.inl ⟨rfl, rfl⟩), h.2⟩
end Go.Proofs.YtoipapcbngknfaaDoor
