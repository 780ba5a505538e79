/- Plain arithmetic for layer 1: integers as lists of decimal digits, the last digit first. Nothing here speaks of a program. -/
import Derived.KernelRfl
namespace Go.Proofs.YtmchiibbodllaaaGreatDoor
set_option linter.unusedVariables false
set_option linter.unnecessarySimpa false
set_option linter.unusedSimpArgs false

/-- What a list of digits denotes. -/
def valD : List Int → Int
  | [] => 0
  | d :: l => d + 10 * valD l
/-- All are digits. -/
def Dig (l : List Int) : Prop := ∀ d ∈ l, 0 ≤ d ∧ d ≤ 9
def p10 (n : Nat) : Int := 10 ^ n
theorem p10_zero : p10 0 = 1 := rfl
theorem p10_succ (n : Nat) : p10 (n + 1) = 10 * p10 n := by unfold p10; rw [Int.pow_succ]; omega
theorem p10_pos (n : Nat) : 0 < p10 n := by
  induction n with
  | zero => decide
  | succ n ih => rw [p10_succ]; omega
theorem p10_add (a b : Nat) : p10 (a + b) = p10 a * p10 b := by unfold p10; exact Int.pow_add 10 a b
theorem p10_mono {a b : Nat} (h : a ≤ b) : p10 a ≤ p10 b := by
  induction b with
  | zero => obtain rfl : a = 0 := (by omega)
            exact Int.le_refl _
  | succ b ih =>
    rcases Nat.lt_or_ge b a with h' | h'
    · obtain rfl : a = b + 1 := by omega
      exact Int.le_refl _
    · have := ih h'; have := p10_pos b; rw [p10_succ]; omega
theorem Dig.cons {d : Int} {l : List Int} (h : Dig (d :: l)) : 0 ≤ d ∧ d ≤ 9 ∧ Dig l := ⟨(h d (by simp)).1, (h d (by simp)).2, fun x hx => h x (by simp [hx])⟩
theorem Dig.nil : Dig [] := fun d h => by cases h
theorem Dig.mk {d : Int} {l : List Int} (h0 : 0 ≤ d) (h9 : d ≤ 9) (h : Dig l) : Dig (d :: l) := by
  intro x hx
  rcases List.mem_cons.1 hx with rfl | hx
  · exact ⟨h0, h9⟩
  · exact h x hx
theorem Dig.app {l m : List Int} (h : Dig l) (h' : Dig m) : Dig (l ++ m) := by
  intro x hx
  rcases List.mem_append.1 hx with hx | hx
  · exact h x hx
  · exact h' x hx
theorem Dig.take {l : List Int} (h : Dig l) (n : Nat) : Dig (l.take n) := fun d hd => h d (List.mem_of_mem_take hd)
theorem Dig.drop {l : List Int} (h : Dig l) (n : Nat) : Dig (l.drop n) := fun d hd => h d (List.mem_of_mem_drop hd)
theorem valD_app (l m : List Int) : valD (l ++ m) = valD l + p10 l.length * valD m := by
  induction l with
  | nil => simp [valD, p10_zero]
  | cons d l ih =>
    simp only [List.cons_append, valD, List.length_cons, ih, p10_succ]
    rw [Int.mul_add, Int.mul_assoc]
    omega
theorem valD_nonneg {l : List Int} (h : Dig l) : 0 ≤ valD l := by
  induction l with
  | nil => exact Int.le_refl _
  | cons d l ih => obtain ⟨h0, _, h'⟩ := h.cons; have := ih h'; simp only [valD]; omega
theorem valD_lt {l : List Int} (h : Dig l) : valD l < p10 l.length := by
  induction l with
  | nil => decide
  | cons d l ih => obtain ⟨_, h9, h'⟩ := h.cons; have := ih h'; simp only [valD, List.length_cons, p10_succ]; omega
/-- The digits of a number, without superfluous zeros. -/
def digs (n : Nat) : List Int := if h : n = 0 then [] else ((n % 10 : Nat) : Int) :: digs (n / 10)
decreasing_by omega
theorem digs_zero : digs 0 = [] := by rw [digs]; simp
theorem digs_pos {n : Nat} (h : n ≠ 0) : digs n = ((n % 10 : Nat) : Int) :: digs (n / 10) := by rw [digs, dif_neg h]
theorem valD_digs (n : Nat) : valD (digs n) = n := by
  induction n using Nat.strongRecOn with
  | _ n ih =>
    by_cases h : n = 0
    · subst h; rw [digs_zero]; rfl
    · rw [digs_pos h, valD, ih (n / 10) (by omega)]; omega
theorem dig_digs (n : Nat) : Dig (digs n) := by
  induction n using Nat.strongRecOn with
  | _ n ih =>
    by_cases h : n = 0
    · subst h; rw [digs_zero]; exact Dig.nil
    · rw [digs_pos h]; exact Dig.mk (by omega) (by omega) (ih (n / 10) (by omega))
theorem digs_nil {n : Nat} : digs n = [] ↔ n = 0 := by
  constructor
  · intro h
    by_cases h' : n = 0
    · exact h'
    · rw [digs_pos h'] at h; cases h
  · rintro rfl; exact digs_zero
/-- No superfluous zero. -/
def Trim (l : List Int) : Prop := ∀ d, l.getLast? = some d → d ≠ 0
theorem valD_pos {l : List Int} (h : Dig l) (ht : Trim l) (hne : l ≠ []) : 0 < valD l := by
  induction l with
  | nil => exact absurd rfl hne
  | cons d l ih =>
    obtain ⟨h0, h9, h'⟩ := h.cons
    simp only [valD]
    cases l with
    | nil =>
      have := ht d (by simp)
      simp only [valD]; omega
    | cons e l =>
      have := ih h' (fun x hx => ht x (by simpa using hx)) (by simp)
      omega
theorem digs_of {l : List Int} (h : Dig l) (ht : Trim l) : l = digs (valD l).toNat := by
  induction l with
  | nil => simp [valD, digs_zero]
  | cons d l ih =>
    obtain ⟨h0, h9, h'⟩ := h.cons
    have hp := valD_pos h ht (by simp)
    have hl := valD_nonneg h'
    have ht' : Trim l := fun x hx => ht x (by
      cases l with
      | nil => cases hx
      | cons e l => simpa using hx)
    have := ih h' ht'
    simp only [valD] at hp ⊢
    rw [digs_pos (by omega), show ((d + 10 * valD l).toNat % 10 : Nat) = d.toNat by omega, show (d + 10 * valD l).toNat / 10 = (valD l).toNat by omega, ← this]
    congr 1
    omega
theorem trim_digs (n : Nat) : Trim (digs n) := by
  induction n using Nat.strongRecOn with
  | _ n ih =>
    intro d hd
    by_cases h : n = 0
    · subst h; rw [digs_zero] at hd; cases hd
    · rw [digs_pos h] at hd
      by_cases h2 : n / 10 = 0
      · rw [h2, digs_zero] at hd
        simp only [List.getLast?_singleton, Option.some.injEq] at hd
        omega
      · refine ih (n / 10) (by omega) d ?_
        cases hc : digs (n / 10) with
        | nil => exact absurd (digs_nil.1 hc) h2
        | cons e l => rw [hc] at hd; simpa using hd
/-- The digits that are left when the zeros behind are struck. -/
theorem take_digs {l : List Int} (h : Dig l) {n : Nat} (hn : n ≤ l.length) (hv : valD (l.take n) = valD l) (hz : ∀ d, 0 < n → l[n - 1]? = some d → d ≠ 0) : l.take n = digs (valD l).toNat := by
  rw [← hv]
  refine digs_of (h.take n) fun d hd => ?_
  rw [List.getLast?_take] at hd
  split at hd
  · cases hd
  · rename_i h0
    have hn0 : 0 < n := by omega
    have hlt : n - 1 < l.length := by omega
    rw [List.getElem?_eq_getElem hlt] at hd
    simp only [Option.some_or, Option.some.injEq] at hd
    exact hz d hn0 (by rw [List.getElem?_eq_getElem hlt]; simpa using hd)
theorem valD_take_zero {l : List Int} {n : Nat} (hn : l[n]? = some 0) : valD (l.take (n + 1)) = valD (l.take n) := by
  rw [List.take_add_one, hn, valD_app]
  simp [valD]
theorem len_digs_le {n k : Nat} (h : n < 10 ^ k) : (digs n).length ≤ k := by
  induction k generalizing n with
  | zero => obtain rfl : n = 0 := by simpa using h
            rw [digs_zero]; simp
  | succ k ih =>
    by_cases h0 : n = 0
    · subst h0; rw [digs_zero]; simp
    · rw [digs_pos h0]
      have := ih (n := n / 10) (by rw [Nat.pow_succ] at h; omega)
      simp; omega
theorem len_digs_gt {n k : Nat} (h : 10 ^ k ≤ n) : k < (digs n).length := by
  induction k generalizing n with
  | zero =>
    have h1 : n ≠ 0 := by simp at h; omega
    rw [digs_pos h1]; simp
  | succ k ih =>
    have hp : 0 < 10 ^ k := Nat.pow_pos (by omega)
    have h1 : n ≠ 0 := by rw [Nat.pow_succ] at h; omega
    rw [digs_pos h1]
    have := ih (n := n / 10) (by rw [Nat.pow_succ] at h; omega)
    simp; omega
/-- A digit, or zero beyond the end. -/
def dg (l : List Int) (i : Nat) : Int := l.getD i 0
theorem dg_dig {l : List Int} (h : Dig l) (i : Nat) : 0 ≤ dg l i ∧ dg l i ≤ 9 := by
  unfold dg
  rcases Nat.lt_or_ge i l.length with h' | h'
  · rw [List.getD_eq_getElem?_getD, List.getElem?_eq_getElem h']; exact h _ (List.getElem_mem h')
  · rw [List.getD_eq_getElem?_getD, List.getElem?_eq_none h']; decide
theorem valD_drop (l : List Int) (i : Nat) : valD (l.drop i) = dg l i + 10 * valD (l.drop (i + 1)) := by
  unfold dg
  rcases Nat.lt_or_ge i l.length with h' | h'
  · rw [List.drop_eq_getElem_cons h', valD, List.getD_eq_getElem?_getD, List.getElem?_eq_getElem h']; rfl
  · rw [List.drop_of_length_le h', List.drop_of_length_le (by omega), List.getD_eq_getElem?_getD, List.getElem?_eq_none h']; rfl
theorem valD_take (l : List Int) (i : Nat) : valD (l.take (i + 1)) = valD (l.take i) + p10 i * dg l i := by
  unfold dg
  rcases Nat.lt_or_ge i l.length with h' | h'
  · rw [List.take_add_one, List.getElem?_eq_getElem h', valD_app, List.length_take, Nat.min_eq_left (by omega), List.getD_eq_getElem?_getD, List.getElem?_eq_getElem h']
    simp [valD]
  · rw [List.take_of_length_le (by omega), List.take_of_length_le h', List.getD_eq_getElem?_getD, List.getElem?_eq_none h']; simp
theorem valD_split (l : List Int) (i : Nat) : valD l = valD (l.take i) + p10 i * valD (l.drop i) := by
  rcases Nat.lt_or_ge l.length i with h' | h'
  · rw [List.take_of_length_le (by omega), List.drop_of_length_le (by omega)]; simp [valD]
  · have := valD_app (l.take i) (l.drop i)
    rw [List.take_append_drop, List.length_take, Nat.min_eq_left h'] at this
    exact this
theorem valD_take_lt {l : List Int} (h : Dig l) (i : Nat) : valD (l.take i) < p10 i := by
  have := valD_lt (h.take i)
  have h2 : p10 (l.take i).length ≤ p10 i := p10_mono (by rw [List.length_take]; omega)
  omega
/-- The greater digit decides. -/
theorem valD_cmp_lt {a b : List Int} (ha : Dig a) (hb : Dig b) {i : Nat} (hd : valD (a.drop (i + 1)) = valD (b.drop (i + 1))) (hlt : dg a i < dg b i) : valD a < valD b := by
  rw [valD_split a i, valD_split b i]
  have h1 : valD (a.drop i) + 1 ≤ valD (b.drop i) := by rw [valD_drop a i, valD_drop b i, hd]; omega
  have h2 := valD_take_lt ha i
  have h3 := valD_nonneg (hb.take i)
  have h4 : p10 i * (valD (a.drop i) + 1) ≤ p10 i * valD (b.drop i) := Int.mul_le_mul_of_nonneg_left h1 (Int.le_of_lt (p10_pos i))
  rw [Int.mul_add] at h4
  omega
theorem tdiv_bd {n P M : Int} (hP : 0 < P) (h0 : -M ≤ n) (h1 : n ≤ M) : -M ≤ n.tdiv P ∧ n.tdiv P ≤ M := by
  rcases Int.le_total 0 n with h | h
  · rw [Int.tdiv_eq_ediv_of_nonneg h]
    have h2 := Int.ediv_nonneg h (Int.le_of_lt hP)
    have h3 := Int.ediv_le_self P h
    omega
  · have h4 : n.tdiv P = -((-n) / P) := by
      rw [← Int.tdiv_eq_ediv_of_nonneg (by omega), Int.neg_tdiv, Int.neg_neg]
    rw [h4]
    have h2 := Int.ediv_nonneg (a := -n) (by omega) (Int.le_of_lt hP)
    have h3 := Int.ediv_le_self (a := -n) P (by omega)
    omega
theorem tmod_bd {n P : Int} (hP : 0 < P) : -P < n.tmod P ∧ n.tmod P < P ∧ (0 ≤ n → 0 ≤ n.tmod P) ∧ (n ≤ 0 → n.tmod P ≤ 0) := by
  rcases Int.le_total 0 n with h | h
  · rw [Int.tmod_eq_emod_of_nonneg h]
    have h2 := Int.emod_nonneg n (Int.ne_of_gt hP)
    have h3 := Int.emod_lt_of_pos n hP
    refine ⟨by omega, by omega, fun _ => h2, fun h' => ?_⟩
    obtain rfl : n = 0 := by omega
    simp
  · have h4 : n.tmod P = -((-n) % P) := by
      rw [← Int.tmod_eq_emod_of_nonneg (by omega), Int.neg_tmod, Int.neg_neg]
    rw [h4]
    have h2 := Int.emod_nonneg (-n) (Int.ne_of_gt hP)
    have h3 := Int.emod_lt_of_pos (-n) hP
    refine ⟨by omega, by omega, fun h' => ?_, fun _ => by omega⟩
    obtain rfl : n = 0 := by omega
    simp
theorem tparts (n P : Int) : n = n.tdiv P * P + n.tmod P := by
  have := Int.mul_tdiv_add_tmod n P
  rw [Int.mul_comm] at this
  omega
theorem tmod_mul_bd {n P R : Int} (hP : 0 < P) (hR : 0 < R) : -(P * R) < n.tmod P * R ∧ n.tmod P * R < P * R := by
  obtain ⟨h1, h2, _, _⟩ := tmod_bd (n := n) hP
  have h3 : n.tmod P * R < P * R := Int.mul_lt_mul_of_pos_right h2 hR
  have h4 : -P * R < n.tmod P * R := Int.mul_lt_mul_of_pos_right h1 hR
  rw [Int.neg_mul] at h4
  exact ⟨h4, h3⟩
end Go.Proofs.YtmchiibbodllaaaGreatDoor
