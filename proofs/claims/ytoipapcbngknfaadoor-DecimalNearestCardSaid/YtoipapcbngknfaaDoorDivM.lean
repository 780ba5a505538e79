/- Plain arithmetic: quotients rounded half to even. Nothing here speaks of a program. -/
import Derived.Test.YtoipapcbngknfaaDoorDMath
namespace Go.Proofs.YtoipapcbngknfaaDoor
set_option linter.unusedVariables false
set_option linter.unnecessarySimpa false
set_option linter.unusedSimpArgs false

/-- X / Y rounded half to even (0 ≤ X, 0 < Y). -/
def rnd (X Y : Int) : Int := if Y < 2 * (X % Y) ∨ (2 * (X % Y) = Y ∧ (X / Y) % 2 = 1) then X / Y + 1 else X / Y
theorem rnd_scale {X Y p : Int} (hp : 0 < p) : rnd (X * p) (Y * p) = rnd X Y := by
  unfold rnd
  have e1 : X * p / (Y * p) = X / Y := Int.mul_ediv_mul_of_pos_left X Y hp
  have e2 : X * p % (Y * p) = p * (X % Y) := by rw [Int.mul_comm X p, Int.mul_comm Y p]; exact Int.mul_emod_mul_of_pos X Y hp
  rw [e1, e2]
  generalize X % Y = m
  have e3 : 2 * (p * m) = 2 * m * p := by rw [Int.mul_comm p m, ← Int.mul_assoc]
  rw [e3]
  have h1 : Y * p < 2 * m * p ↔ Y < 2 * m := ⟨fun h => Int.lt_of_mul_lt_mul_right h (Int.le_of_lt hp), fun h => Int.mul_lt_mul_of_pos_right h hp⟩
  have h2 : 2 * m * p = Y * p ↔ 2 * m = Y := ⟨fun h => Int.eq_of_mul_eq_mul_right (by omega) h, fun h => by rw [h]⟩
  exact ite_congr (by rw [h1, h2]) (fun _ => rfl) (fun _ => rfl)
theorem div_step {X b : Int} (hb : 0 < b) : X * 10 / b = 10 * (X / b) + X % b * 10 / b ∧ X * 10 % b = X % b * 10 % b := by
  have h : X * 10 = X % b * 10 + b * (10 * (X / b)) := by
    have h1 := Int.emod_add_mul_ediv X b
    have h2 : b * (10 * (X / b)) = 10 * (b * (X / b)) := by rw [← Int.mul_assoc, Int.mul_comm b 10, Int.mul_assoc]
    omega
  constructor
  · rw [h, Int.add_mul_ediv_left _ _ (show b ≠ 0 by omega)]
    omega
  · rw [h, Int.add_mul_emod_self_left]
theorem rnd_bd {X Y : Int} (hX : 0 ≤ X) (hY : 0 < Y) : 0 ≤ X / Y ∧ X / Y ≤ rnd X Y ∧ rnd X Y ≤ X / Y + 1 := by
  have := Int.ediv_nonneg hX (Int.le_of_lt hY)
  unfold rnd
  split <;> omega
theorem rnd_small {X Y : Int} (hX : 0 ≤ X) (h : 2 * X < Y) : rnd X Y = 0 := by
  have h1 : X / Y = 0 := Int.ediv_eq_zero_of_lt hX (by omega)
  have h2 : X % Y = X := Int.emod_eq_of_lt hX (by omega)
  unfold rnd
  rw [h1, h2, if_neg (by omega)]
theorem div_mono {a b k : Int} (hb : 0 < b) (ha : 0 ≤ a) (hk : 1 ≤ k) : a / b ≤ a * k / b := by
  refine Int.ediv_le_ediv hb ?_
  have : a * 1 ≤ a * k := Int.mul_le_mul_of_nonneg_left hk ha
  omega
/-- A multiple of the divisor is not rounded. -/
theorem rnd_exact {X Y : Int} (hY : 0 < Y) : rnd (X * Y) Y = X := by
  have h1 : X * Y / Y = X := Int.mul_ediv_cancel X (by omega)
  have h2 : X * Y % Y = 0 := Int.mul_emod_left X Y
  unfold rnd
  rw [h1, h2, if_neg (by omega)]
/-- The distance of the rounded quotient. -/
theorem rnd_near {X Y : Int} (hX : 0 ≤ X) (hY : 0 < Y) : -Y ≤ 2 * (X - rnd X Y * Y) ∧ 2 * (X - rnd X Y * Y) ≤ Y ∧ ((2 * (X - rnd X Y * Y) = Y ∨ 2 * (X - rnd X Y * Y) = -Y) → rnd X Y % 2 = 0) := by
  have h1 := Int.emod_add_mul_ediv X Y
  have h2 := Int.emod_nonneg X (show Y ≠ 0 by omega)
  have h3 := Int.emod_lt_of_pos X hY
  have h4 := Int.ediv_nonneg hX (Int.le_of_lt hY)
  rw [Int.mul_comm] at h1
  unfold rnd
  generalize X / Y = q at *
  generalize X % Y = m at *
  have h5 : (q + 1) * Y = q * Y + Y := by rw [Int.add_mul, Int.one_mul]
  split
  · rw [h5]
    refine ⟨by omega, by omega, fun h => by omega⟩
  · refine ⟨by omega, by omega, fun h => by omega⟩

/-! ### What decimal.divide computes -/
/-- The first loop: as long as the divisor is small, it takes the place of the power. -/
theorem p10_step (b : Int) (k : Nat) : b * p10 k * 10 = b * p10 (k + 1) := by rw [p10_succ, Int.mul_assoc, Int.mul_comm (p10 k) 10]
theorem divide_small {a b : Int} {k e : Nat} (ha : 0 ≤ a) (hb : 0 < b) (ha1 : a ≤ 999999999999999) (hk : k ≤ e) (h : 3999999999999996 < b * p10 k) : rnd a (b * p10 e) = 0 := by
  refine rnd_small ha ?_
  have h1 : b * p10 k ≤ b * p10 e := Int.mul_le_mul_of_nonneg_left (p10_mono hk) (Int.le_of_lt hb)
  omega
/-- The second loop's round. -/
theorem divide_round {a b : Int} (k : Nat) (hb : 0 < b) : a * p10 (k + 1) / b = 10 * (a * p10 k / b) + a * p10 k % b * 10 / b ∧ a * p10 (k + 1) % b = a * p10 k % b * 10 % b := by
  have := div_step (X := a * p10 k) hb
  rw [p10_step] at this
  exact this
theorem divide_great {a b : Int} {k e : Nat} (ha : 0 ≤ a) (hb : 0 < b) (hk : k ≤ e) (h : 999999999999999 < a * p10 k / b) : 999999999999999 < rnd (a * p10 e) b := by
  have h1 : a * p10 k / b ≤ a * p10 e / b := by
    refine Int.ediv_le_ediv hb ?_
    exact Int.mul_le_mul_of_nonneg_left (p10_mono hk) ha
  have h2 := rnd_bd (X := a * p10 e) (Y := b) (Int.mul_nonneg ha (Int.le_of_lt (p10_pos e))) hb
  omega
/-- The quotient that divide reckons is that of the reference. -/
theorem rnd_up {a b : Int} {s q : Nat} (h : s ≤ q) : rnd (a * p10 (q - s)) b = rnd (a * p10 q) (b * p10 s) := by
  rw [← rnd_scale (p10_pos s), Int.mul_assoc, ← p10_add, show q - s + s = q by omega]
theorem rnd_down {a b : Int} {s q : Nat} (h : q ≤ s) : rnd a (b * p10 (s - q)) = rnd (a * p10 q) (b * p10 s) := by
  rw [← rnd_scale (p10_pos q), Int.mul_assoc, ← p10_add, show s - q + q = s by omega]

/-! ### What the reference's Nearest computes: digit by digit -/
/-- The digits from i on are found; r is left. -/
def Near (xs L : List Int) (b r : Int) (i : Nat) : Prop := valD (xs.drop i) = b * valD (L.drop i) + r
theorem near_next {xs L : List Int} {b r d : Int} {i : Nat} (h : Near xs L b r (i + 1)) (hx : dg xs i = d) (hz : dg L i = 0) : Near xs L b (d + 10 * r) i := by
  unfold Near at *
  rw [valD_drop xs i, valD_drop L i, h, hx, hz, Int.mul_add, Int.mul_add]
  have : b * (10 * valD (L.drop (i + 1))) = 10 * (b * valD (L.drop (i + 1))) := by rw [← Int.mul_assoc, Int.mul_comm b 10, Int.mul_assoc]
  omega
theorem dg_set {L : List Int} {i : Nat} (y : Int) (h : i < L.length) : dg (L.set i y) i = y := by
  unfold dg; rw [List.getD_eq_getElem?_getD, List.getElem?_set_self h]; rfl
theorem dg_set_ne {L : List Int} {i j : Nat} (y : Int) (h : i ≠ j) : dg (L.set i y) j = dg L j := by
  unfold dg; rw [List.getD_eq_getElem?_getD, List.getD_eq_getElem?_getD, List.getElem?_set_ne h]
theorem drop_set_next (L : List Int) (i : Nat) (y : Int) : (L.set i y).drop (i + 1) = L.drop (i + 1) := by
  rw [List.drop_set]
  simp
theorem near_sub {xs L : List Int} {b r : Int} {i : Nat} (hi : i < L.length) (h : Near xs L b r i) : Near xs (L.set i (dg L i + 1)) b (r - b) i := by
  unfold Near at *
  rw [h, valD_drop L i, valD_drop (L.set i _) i, dg_set _ hi, drop_set_next, Int.mul_add, Int.mul_add, Int.mul_add, Int.mul_one]
  omega
theorem near_end {xs L : List Int} {b r : Int} (h : Near xs L b r 0) (hb : 0 < b) (h0 : 0 ≤ r) (h1 : r < b) : valD L = valD xs / b ∧ r = valD xs % b := by
  unfold Near at h
  rw [List.drop_zero, List.drop_zero] at h
  have h2 : valD xs / b = valD L ∧ valD xs % b = r := (Int.ediv_emod_unique hb).2 ⟨by omega, h0, h1⟩
  exact ⟨h2.1.symm, h2.2.symm⟩
/-- The digit found stays a digit. -/
theorem near_digit {b c r d q : Int} (hb : 0 < b) (h : b * c + r = d + 10 * q) (hr : 0 ≤ r) (hd : d ≤ 9) (hq : q < b) : c ≤ 9 := by
  rcases Int.lt_or_le c 10 with h' | h'
  · omega
  · have : b * 10 ≤ b * c := Int.mul_le_mul_of_nonneg_left h' (Int.le_of_lt hb)
    omega
theorem odd_first {L : List Int} (h : Dig L) : valD L % 2 = dg L 0 % 2 := by
  have := valD_drop L 0
  rw [List.drop_zero] at this
  omega
end Go.Proofs.YtoipapcbngknfaaDoor
