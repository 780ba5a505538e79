/- What decimal.parts, total, Add, Sub, Mul and Sum compute. -/
import Derived.Test.YtoipapcbngknfaaDoorDec1
namespace Go.Proofs.YtoipapcbngknfaaDoor
set_option linter.unusedVariables false
set_option linter.unnecessarySimpa false
set_option linter.unusedSimpArgs false
open Go.RowKit

set_option maxRecDepth 20000 in set_option maxHeartbeats 400000 in
theorem parts_any (n : Int) (k : Nat) (w : World) (hk : k ≤ 12) (h0 : -999999999999999 ≤ n) (h1 : n ≤ 999999999999999) :
    Calls Tryd.prog 52 #[.agg #[.int .i64 n, .int .i64 k]] w fun e w' => e = .returned (.tuple #[.int .i64 (n.tdiv (p10 k)), .int .i64 (n.tmod (p10 k) * p10 (12 - k))]) ∧ Below w.heap.size w w' := by
  have T1 := Lib.hid (fun w => ten_any k w hk)
  have T2 := Lib.hid (fun w => ten_any (12 - k) w (by omega))
  have hs : IntKind.i64.wrap (12 - (k : Int)) = ((12 - k : Nat) : Int) := by rw [IntWalk.i64_in _ (by omega)]; omega
  have hp := p10_pos k
  have hR := p10_pos (12 - k)
  have hPR : p10 k * p10 (12 - k) = 1000000000000 := by rw [← p10_add, show k + (12 - k) = 12 by omega]; decide
  have hb2 := tmod_mul_bd (n := n) hp hR
  rw [hPR] at hb2
  generalize p10 k = P at *
  generalize p10 (12 - k) = R at *
  have hp0 : ¬ P = 0 := by omega
  have q1 : IntKind.i64.wrap (n.tdiv P) = n.tdiv P := by have := tdiv_bd hp h0 h1; exact IntWalk.i64_in _ (by omega)
  have q2 : IntKind.i64.wrap (n.tmod P) = n.tmod P := by
    have := tmod_bd (n := n) hp
    have hP1 : P ≤ 1000000000000 := by
      have : P * 1 ≤ P * R := Int.mul_le_mul_of_nonneg_left (by omega) (Int.le_of_lt hp)
      omega
    exact IntWalk.i64_in _ (by omega)
  have q3 : IntKind.i64.wrap (n.tmod P * R) = n.tmod P * R := IntWalk.i64_in _ (by omega)
  clear hPR hb2 h0 h1 hR
  go_enter Tryd.func52, Tryd.ntmps52
  go_wp2_with fail
  refine (T1.out _).mono ?_
  rintro e w1 ⟨rfl, hb⟩
  
  replace k0 := G.cell (a := ⟨w.heap.size, 0, none⟩) (v := .int .i64 n) (by go_simp) hb
  replace k1 := G.cell (a := ⟨w.heap.size, 1, none⟩) (v := .int .i64 k) (by go_simp) hb
  replace lt0 := cell_lt k0
  replace lt1 := cell_lt k1
  have hbw : Below w.heap.size w w1 := by repeat (first | with_reducible assumption | with_reducible exact G.refl _ | with_reducible refine G.drew ?_ | with_reducible refine G.drewN ?_ _ | with_reducible refine G.alloc ?_ _ | with_reducible refine Below.setCell ?_ (by first | (simp; done) | (simp; omega)) _ | with_reducible refine G.trans ?_ hb12 | with_reducible refine G.trans ?_ hb11 | with_reducible refine G.trans ?_ hb10 | with_reducible refine G.trans ?_ hb9 | with_reducible refine G.trans ?_ hb8 | with_reducible refine G.trans ?_ hb7 | with_reducible refine G.trans ?_ hb6 | with_reducible refine G.trans ?_ hb5 | with_reducible refine G.trans ?_ hb4 | with_reducible refine G.trans ?_ hb3 | with_reducible refine G.trans ?_ hb2 | with_reducible refine G.trans ?_ hb1 | with_reducible refine G.trans ?_ hb | assumption)
  go_wp2_with fail
  refine wp_region_ord [(0, 1), (1, 1), (2, 1), (3, 1), (4, 1), (5, 1), (6, 1), (7, 1), (8, 1), (9, 1), (10, 1), (11, 2), (12, 1), (13, 1), (14, 1)] [] 5 (by kernel_rfl) (by decide +kernel) ?_
  simp only [pickO, List.getElem?_cons_succ, List.getElem?_cons_zero]
  intro w0 hG
  (repeat ((first | (with_reducible refine ord_q1 ?_) | (with_reducible refine ord_q0 ?_)); intro K hK; first | (refine Or.inr ⟨?_, ?_⟩; (focus (go_simp; first | done | (simp [undef]; done))); go_simp; (with_reducible refine hK _ ?_); clear hK K) | (refine Or.inl ⟨?_, ?_⟩; (focus (go_simp; done)); apply Exists.intro; refine And.intro ?_ ?_; (focus (first | (intro wq hq; obtain ⟨hcq, hfq⟩ := G.old hq; go_simp; (first | done | exact rfl); done) | (intro wq; go_simp; (first | done | exact rfl); done))); go_simp; (with_reducible refine hK _ ?_); clear hK K) | fail))
  (with_reducible refine ord_run ?_ hG)
  intro K hK
  go_simp
  go_at_call 59; (with_reducible refine (T2.out _).mono ?_); rintro e w2 ⟨rfl, hb2⟩
  replace hG := Grew.trans hG hb2
  (try dsimp only)
  (with_reducible refine hK _ _ hG ?_)
  clear hK K
  (repeat ((first | (with_reducible refine ord_q1 ?_) | (with_reducible refine ord_q0 ?_)); intro K hK; first | (refine Or.inr ⟨?_, ?_⟩; (focus (go_simp; first | done | (simp [undef]; done))); go_simp; (with_reducible refine hK _ ?_); clear hK K) | (refine Or.inl ⟨?_, ?_⟩; (focus (go_simp; done)); apply Exists.intro; refine And.intro ?_ ?_; (focus (first | (intro wq hq; obtain ⟨hcq, hfq⟩ := G.old hq; go_simp; (first | done | exact rfl); done) | (intro wq; go_simp; (first | done | exact rfl); done))); go_simp; (with_reducible refine hK _ ?_); clear hK K) | fail))
  (with_reducible refine ord_nil ?_)
  go_wp2
  go_ret2
  exact ⟨rfl, G.trans hbw hG.b⟩

/-! ### Sums -/
def sumI : List Int → Int
  | [] => 0
  | x :: xs => x + sumI xs
theorem sumI_app (xs ys : List Int) : sumI (xs ++ ys) = sumI xs + sumI ys := by
  induction xs with
  | nil => simp [sumI]
  | cons x xs ih => simp only [List.cons_append, sumI, ih]; omega
def wholeP (p : Int × Int) : Int := p.1.tdiv (p10 p.2.toNat)
def restP (p : Int × Int) : Int := p.1.tmod (p10 p.2.toNat) * p10 (12 - p.2.toNat)
/-- The sum in units of the scale sc. -/
def sumAt (L : List (Int × Int)) (sc : Nat) : Int := sumI (L.map fun p => p.1 * p10 (sc - p.2.toNat))
theorem sum_snoc {L : List (Int × Int)} {k : Nat} {p : Int × Int} (f : Int × Int → Int) (h : L[k]? = some p) : sumI ((L.take (k + 1)).map f) = sumI ((L.take k).map f) + f p := by
  rw [List.take_add_one, h, List.map_append, sumI_app]
  simp [sumI]
theorem sum_bd {L : List (Int × Int)} {f : Int × Int → Int} {M : Int} (hM : 0 ≤ M) (h : ∀ p ∈ L, -M ≤ f p ∧ f p ≤ M) (k : Nat) : -(M * k) ≤ sumI ((L.take k).map f) ∧ sumI ((L.take k).map f) ≤ M * k := by
  induction k with
  | zero => simp [sumI]
  | succ k ih =>
    have hs : M * ((k + 1 : Nat) : Int) = M * k + M := by rw [Int.natCast_add, Int.mul_add]; simp
    rw [hs]
    cases hk : L[k]? with
    | none =>
      rw [List.take_add_one, hk]
      simp only [Option.toList_none, List.append_nil]
      omega
    | some p =>
      rw [sum_snoc f hk]
      have := h p (List.mem_of_getElem? hk)
      omega
theorem okN_nat {n s : Int} (h : okN n s = true) : ∃ k : Nat, s = k ∧ k ≤ 12 ∧ -999999999999999 ≤ n ∧ n ≤ 999999999999999 := by
  have := okN_iff.1 h
  exact ⟨s.toNat, by omega, by omega, by omega, by omega⟩
theorem whole_bd {L : List (Int × Int)} (h : ∀ p ∈ L, okN p.1 p.2 = true) : ∀ p ∈ L, -999999999999999 ≤ wholeP p ∧ wholeP p ≤ 999999999999999 := by
  intro p hp
  have := okN_iff.1 (h p hp)
  exact tdiv_bd (p10_pos _) (by omega) (by omega)
theorem rest_bd {L : List (Int × Int)} (h : ∀ p ∈ L, okN p.1 p.2 = true) : ∀ p ∈ L, -1000000000000 ≤ restP p ∧ restP p ≤ 1000000000000 := by
  intro p hp
  have := okN_iff.1 (h p hp)
  have h2 := tmod_mul_bd (n := p.1) (p10_pos p.2.toNat) (p10_pos (12 - p.2.toNat))
  rw [← p10_add, show p.2.toNat + (12 - p.2.toNat) = 12 by omega, show p10 12 = 1000000000000 by decide] at h2
  unfold restP
  omega
/-- The two sums and the sum. -/
theorem sum_parts {L : List (Int × Int)} {sc : Nat} (hsc : sc ≤ 12) (h : ∀ p ∈ L, okN p.1 p.2 = true ∧ p.2.toNat ≤ sc) :
    sumI (L.map wholeP) * 1000000000000 + sumI (L.map restP) = sumAt L sc * p10 (12 - sc) := by
  unfold sumAt
  induction L with
  | nil => simp [sumI]
  | cons p L ih =>
    simp only [List.map_cons, sumI]
    have ih := ih fun q hq => h q (by simp [hq])
    obtain ⟨h1, h2⟩ := h p (by simp)
    have h3 := okN_iff.1 h1
    have e1 : wholeP p * 1000000000000 + restP p = p.1 * p10 (sc - p.2.toNat) * p10 (12 - sc) := by
      have hU : (1000000000000 : Int) = p10 p.2.toNat * p10 (12 - p.2.toNat) := by rw [← p10_add, show p.2.toNat + (12 - p.2.toNat) = 12 by omega]; decide
      unfold wholeP restP
      rw [hU, ← Int.mul_assoc, ← Int.add_mul, ← tparts, Int.mul_assoc, ← p10_add, show sc - p.2.toNat + (12 - sc) = 12 - p.2.toNat by omega]
    rw [Int.add_mul, Int.add_mul]
    omega
/-- What total makes of the two sums. -/
def adj1 (W R : Int) : Int := if 0 < W ∧ R < 0 then W - 1 else if W < 0 ∧ 0 < R then W + 1 else W
def adj2 (W R : Int) : Int := if 0 < W ∧ R < 0 then R + 1000000000000 else if W < 0 ∧ 0 < R then R - 1000000000000 else R
theorem adj_eq {W R : Int} (h0 : -1000000000000 < R) (h1 : R < 1000000000000) : adj1 W R * 1000000000000 + adj2 W R = W * 1000000000000 + R ∧ -1000000000000 < adj2 W R ∧ adj2 W R < 1000000000000 ∧ (0 < adj1 W R → 0 ≤ adj2 W R) ∧ (adj1 W R < 0 → adj2 W R ≤ 0) := by
  unfold adj1 adj2
  split
  · refine ⟨?_, ?_, ?_, ?_, ?_⟩ <;> omega
  · split
    · refine ⟨?_, ?_, ?_, ?_, ?_⟩ <;> omega
    · refine ⟨?_, ?_, ?_, ?_, ?_⟩ <;> omega
/-- total's test, and its result. -/
theorem total_law {V S W R P Q : Int} (hP : 0 < P) (hQ : 0 < Q) (hPQ : P * Q = 1000000000000) (hV : W * 1000000000000 + R = S * Q) (h0 : -1000000000000 < R) (h1 : R < 1000000000000) (h2 : 0 < W → 0 ≤ R) (h3 : W < 0 → R ≤ 0) :
    ((max W (-W)) > (999999999999999 : Int).tdiv P → ¬ (-999999999999999 ≤ S ∧ S ≤ 999999999999999)) ∧ (¬ (max W (-W)) > (999999999999999 : Int).tdiv P → W * P + R.tdiv Q = S ∧ -999999999999999 ≤ W * P ∧ W * P ≤ 999999999999999) := by
  have hM := tparts 999999999999999 P
  have hMm := tmod_bd (n := 999999999999999) hP
  generalize (999999999999999 : Int).tdiv P = M at *
  generalize (999999999999999 : Int).tmod P = N at *
  have hN0 := hMm.2.2.1 (by omega)
  have hR : R = (S - W * P) * Q := by
    rw [Int.sub_mul, Int.mul_assoc, hPQ]; omega
  constructor
  · intro hgt ⟨hs0, hs1⟩
    have hK : (M + 1) * P = M * P + P := by rw [Int.add_mul, Int.one_mul]
    rcases Int.lt_or_le 0 W with hw | hw
    · have hR0 := h2 hw
      have h5 : (M + 1) * P ≤ W * P := Int.mul_le_mul_of_nonneg_right (by omega) (Int.le_of_lt hP)
      have h6 : 0 ≤ S - W * P := by
        rcases Int.lt_or_le (S - W * P) 0 with h | h
        · have := Int.mul_neg_of_neg_of_pos h hQ
          omega
        · exact h
      omega
    · have hw' : W < 0 ∨ W = 0 := by omega
      rcases hw' with hw | rfl
      · have hR0 := h3 hw
        have h5 : (M + 1) * P ≤ -W * P := Int.mul_le_mul_of_nonneg_right (by omega) (Int.le_of_lt hP)
        rw [Int.neg_mul] at h5
        have h6 : S - W * P ≤ 0 := by
          rcases Int.lt_or_le 0 (S - W * P) with h | h
          · have := Int.mul_pos h hQ
            omega
          · exact h
        omega
      · have : 0 ≤ M := by
          rcases Int.lt_or_le M 0 with h | h
          · have := Int.mul_le_mul_of_nonneg_right (show M + 1 ≤ 0 by omega) (Int.le_of_lt hP)
            omega
          · exact h
        simp at hgt
        omega
  · intro hle
    refine ⟨?_, ?_⟩
    · rw [hR, Int.mul_tdiv_cancel _ (by omega)]
      omega
    · rcases Int.le_total 0 W with hw | hw
      · have h5 : W * P ≤ M * P := Int.mul_le_mul_of_nonneg_right (by omega) (Int.le_of_lt hP)
        have h6 : 0 ≤ W * P := Int.mul_nonneg hw (Int.le_of_lt hP)
        omega
      · have h5 : -W * P ≤ M * P := Int.mul_le_mul_of_nonneg_right (by omega) (Int.le_of_lt hP)
        have h6 : 0 ≤ -W * P := Int.mul_nonneg (by omega) (Int.le_of_lt hP)
        rw [Int.neg_mul] at h5 h6
        omega
end Go.Proofs.YtoipapcbngknfaaDoor
